/- Texts of this claim, one behind the other: PlainL, PlainBF, PlainD, Ref5b, Own5, SortT, PlainMk, PlainA, PlainB, PlainP8, PlainR2, PlainN, Lev7r, Dst8a, Dst8b, Lev7s, Lev7t, OwnSm, Ref7a, Lv7a, Ref7b, PlainFr, RngA, Has4, PlainQ, PlainP9, Lv7b, PlainBall, PlainLv, PlainSr, PlainLs, PlainOr, PlainHp, PlainBy, PlainOr2. -/
import Derived.RangeFuncNested
import Derived.Test.YthlmcfbadhidbaaGreatQLabelDistLabelNeededLabelSelfLabelTellsL2
/- Levels: how far places are from one place, in plain words; what just one row of numbers fulfils. -/
namespace Go.Proofs.YthlmcfbadhidbaaGreat
open Go Go.RowKit
/-- a walk of just k ways leads to a place -/
def wk (nx : Nat → List Int) (n s : Nat) : Nat → Nat → Bool
  | 0, v => v == s
  | k + 1, v => (List.range n).any fun u => wk nx n s k u && (nx u).contains (v : Int)
/-- how far a place is; -1: no walk leads to it -/
def lev (nx : Nat → List Int) (n s v : Nat) : Int := match (List.range n).find? (fun k => wk nx n s k v) with | some k => (k : Int) | none => -1
/-- what levels fulfil -/
structure LevOk (nx : Nat → List Int) (n s : Nat) (f : Nat → Int) : Prop where
  ge : ∀ v, v < n → -1 ≤ f v
  zero : ∀ v, v < n → (f v = 0 ↔ v = s)
  next : ∀ u v, u < n → v < n → (v : Int) ∈ nx u → 0 ≤ f u → 0 ≤ f v ∧ f v ≤ f u + 1
  pred : ∀ v, v < n → 0 < f v → ∃ u, u < n ∧ f u = f v - 1 ∧ (v : Int) ∈ nx u
theorem wk_succ {nx : Nat → List Int} {n s k v : Nat} : wk nx n s (k + 1) v = true ↔ ∃ u, u < n ∧ wk nx n s k u = true ∧ (v : Int) ∈ nx u := by
  simp [wk]
theorem LevOk.of_wk {nx : Nat → List Int} {n s : Nat} {f : Nat → Int} (h : LevOk nx n s f) (hs : s < n) : ∀ k v, v < n → wk nx n s k v = true → 0 ≤ f v ∧ f v ≤ k
  | 0, v, hv, hk => by
    have : v = s := by simpa [wk] using hk
    have := (h.zero v hv).2 this
    omega
  | k + 1, v, hv, hk => by
    obtain ⟨u, hu, h1, h2⟩ := wk_succ.1 hk
    have h3 := h.of_wk hs k u hu h1
    have h4 := h.next u v hu hv h2 h3.1
    omega
theorem LevOk.wk {nx : Nat → List Int} {n s : Nat} {f : Nat → Int} (h : LevOk nx n s f) : ∀ (k v : Nat), v < n → f v = k → wk nx n s k v = true
  | 0, v, hv, hk => by
    have := (h.zero v hv).1 (by omega)
    simpa [Proofs.YthlmcfbadhidbaaGreat.wk] using this
  | k + 1, v, hv, hk => by
    obtain ⟨u, hu, h1, h2⟩ := h.pred v hv (by omega)
    exact wk_succ.2 ⟨u, hu, h.wk k u hu (by omega), h2⟩
theorem LevOk.uniq {nx : Nat → List Int} {n s : Nat} {f g : Nat → Int} (hf : LevOk nx n s f) (hg : LevOk nx n s g) (hs : s < n) : ∀ v, v < n → f v = g v := by
  have key : ∀ {f g : Nat → Int}, LevOk nx n s f → LevOk nx n s g → ∀ v, v < n → 0 ≤ f v → 0 ≤ g v ∧ g v ≤ f v := by
    intro f g hf hg v hv h0
    obtain ⟨k, hk⟩ : ∃ k : Nat, f v = k := ⟨(f v).toNat, by omega⟩
    have := hg.of_wk hs k v hv (hf.wk k v hv hk)
    omega
  intro v hv
  have h1 := hf.ge v hv
  have h2 := hg.ge v hv
  by_cases h : 0 ≤ f v
  · have := key hf hg v hv h
    have := key hg hf v hv this.1
    omega
  · by_cases h' : 0 ≤ g v
    · have := key hg hf v hv h'; omega
    · omega
/-- within k ways -/
def wkT (nx : Nat → List Int) (n s k v : Nat) : Bool := (List.range (k + 1)).any fun j => wk nx n s j v
theorem wkT_iff {nx : Nat → List Int} {n s k v : Nat} : wkT nx n s k v = true ↔ ∃ j, j ≤ k ∧ wk nx n s j v = true := by
  simp only [wkT, List.any_eq_true, List.mem_range]
  constructor
  · rintro ⟨j, h1, h2⟩; exact ⟨j, by omega, h2⟩
  · rintro ⟨j, h1, h2⟩; exact ⟨j, by omega, h2⟩
theorem countP_less {α : Type} (p q : α → Bool) : ∀ l : List α, (∀ x ∈ l, p x = true → q x = true) → (∃ x, x ∈ l ∧ q x = true ∧ p x = false) → l.countP p < l.countP q
  | [], _, h => by obtain ⟨x, hx, _⟩ := h; cases hx
  | a :: l, h1, h2 => by
    have hle : l.countP p ≤ l.countP q := List.countP_mono_left fun x hx => h1 x (List.mem_cons_of_mem _ hx)
    obtain ⟨x, hx, hq, hp⟩ := h2
    rw [List.countP_cons, List.countP_cons]
    rcases List.mem_cons.1 hx with rfl | hx
    · simp only [hq, hp]; simp; omega
    · have := countP_less p q l (fun x hx => h1 x (List.mem_cons_of_mem _ hx)) ⟨x, hx, hq, hp⟩
      have h3 := h1 a (List.mem_cons_self ..)
      cases ha : p a with
      | false => simp only [Bool.false_eq_true, if_false]; split <;> omega
      | true => rw [h3 ha]; simp; omega
theorem wkT_stop {nx : Nat → List Int} {n s : Nat} : ∀ m k, (List.range n).countP (fun v => !wkT nx n s k v) ≤ m → ∃ j, j ≤ k + m ∧ ∀ v, v < n → wkT nx n s (j + 1) v = true → wkT nx n s j v = true
  | m, k, h => by
    by_cases hs : ∀ v, v < n → wkT nx n s (k + 1) v = true → wkT nx n s k v = true
    · exact ⟨k, by omega, hs⟩
    · have : ∃ v, v < n ∧ wkT nx n s (k + 1) v = true ∧ wkT nx n s k v = false := by
        apply Classical.byContradiction
        intro hc
        apply hs
        intro v hv h1
        cases h2 : wkT nx n s k v with
        | true => rfl
        | false => exact absurd ⟨v, hv, h1, h2⟩ hc
      obtain ⟨v, hv, h1, h2⟩ := this
      have hlt := countP_less (fun v => !wkT nx n s (k + 1) v) (fun v => !wkT nx n s k v) (List.range n) (fun x _ hx => by
        simp only [Bool.not_eq_eq_eq_not, Bool.not_true] at hx ⊢
        cases h3 : wkT nx n s k x with
        | false => rfl
        | true =>
          obtain ⟨j, hj, h4⟩ := wkT_iff.1 h3
          rw [wkT_iff.2 ⟨j, by omega, h4⟩] at hx; cases hx) ⟨v, List.mem_range.2 hv, by simp [h2], by simp [h1]⟩
      cases m with
      | zero => omega
      | succ m =>
        obtain ⟨j, hj, h3⟩ := wkT_stop (nx := nx) (n := n) (s := s) m (k + 1) (by omega)
        exact ⟨j, by omega, h3⟩
theorem wkT_closed {nx : Nat → List Int} {n s j : Nat} (h : ∀ v, v < n → wkT nx n s (j + 1) v = true → wkT nx n s j v = true) : ∀ k v, v < n → wk nx n s k v = true → wkT nx n s j v = true
  | 0, v, _, hk => wkT_iff.2 ⟨0, Nat.zero_le _, hk⟩
  | k + 1, v, hv, hk => by
    obtain ⟨u, hu, h1, h2⟩ := wk_succ.1 hk
    obtain ⟨i, hi, h3⟩ := wkT_iff.1 (wkT_closed h k u hu h1)
    exact h v hv (wkT_iff.2 ⟨i + 1, by omega, wk_succ.2 ⟨u, hu, h3, h2⟩⟩)
/-- each walk can be had in less than n ways -/
theorem wk_short {nx : Nat → List Int} {n s : Nat} (hs : s < n) {k v : Nat} (hv : v < n) (hk : wk nx n s k v = true) : ∃ j, j < n ∧ wk nx n s j v = true := by
  have h0 : (List.range n).countP (fun v => !wkT nx n s 0 v) ≤ n - 1 := by
    have := countP_less (fun v => !wkT nx n s 0 v) (fun _ => true) (List.range n) (fun _ _ _ => rfl) ⟨s, List.mem_range.2 hs, rfl, by simp [wkT, wk, List.range_succ]⟩
    rw [List.countP_true, List.length_range] at this
    omega
  obtain ⟨j, hj, h1⟩ := wkT_stop (nx := nx) (s := s) (n - 1) 0 h0
  obtain ⟨i, hi, h2⟩ := wkT_iff.1 (wkT_closed h1 k v hv hk)
  exact ⟨i, by omega, h2⟩
/-- the least one -/
theorem least_nat {p : Nat → Bool} : ∀ k, p k = true → ∃ j, j ≤ k ∧ p j = true ∧ ∀ i, i < j → p i = false
  | 0, h => ⟨0, Nat.le_refl _, h, fun i hi => by omega⟩
  | k + 1, h => by
    by_cases h1 : ∃ j, j ≤ k ∧ p j = true
    · obtain ⟨j, hj, h2⟩ := h1
      obtain ⟨i, hi, h3, h4⟩ := least_nat j h2
      exact ⟨i, by omega, h3, h4⟩
    · refine ⟨k + 1, Nat.le_refl _, h, fun i hi => ?_⟩
      cases h2 : p i with
      | false => rfl
      | true => exact absurd ⟨i, by omega, h2⟩ h1
theorem find_range {p : Nat → Bool} {n k : Nat} (hk : k < n) (h1 : p k = true) (h2 : ∀ i, i < k → p i = false) : (List.range n).find? p = some k := by
  rw [List.find?_eq_some_iff_append]
  refine ⟨h1, List.range k, (List.range (n - k - 1)).map (· + (k + 1)), ?_, fun i hi => by rw [h2 i (List.mem_range.1 hi)]; rfl⟩
  have : n = k + 1 + (n - k - 1) := by omega
  conv => lhs; rw [this, List.range_add, List.range_succ]
  rw [List.append_assoc, List.singleton_append]
  have he : (fun x : Nat => k + 1 + x) = fun x => x + (k + 1) := by funext x; omega
  rw [he]
theorem lev_pos {nx : Nat → List Int} {n s v : Nat} (hs : s < n) (hv : v < n) {k : Nat} (hk : wk nx n s k v = true) : ∃ j, j ≤ k ∧ j < n ∧ lev nx n s v = j ∧ wk nx n s j v = true ∧ ∀ i, i < j → wk nx n s i v = false := by
  obtain ⟨i, hi, h1⟩ := wk_short hs hv hk
  obtain ⟨j, hj, h2, h3⟩ := least_nat (p := fun k => wk nx n s k v) i h1
  have hjk : j ≤ k := by
    by_cases h : j ≤ k
    · exact h
    · have := h3 k (by omega); rw [hk] at this; cases this
  refine ⟨j, hjk, by omega, ?_, h2, h3⟩
  unfold lev
  rw [find_range (p := fun k => wk nx n s k v) (by omega : j < n) h2 h3]
theorem lev_cases {nx : Nat → List Int} {n s v : Nat} (hs : s < n) (hv : v < n) : (lev nx n s v = -1 ∧ ∀ k, wk nx n s k v = false) ∨ ∃ j : Nat, j < n ∧ lev nx n s v = j ∧ wk nx n s j v = true ∧ ∀ i, i < j → wk nx n s i v = false := by
  by_cases h : ∃ k, wk nx n s k v = true
  · obtain ⟨k, hk⟩ := h
    obtain ⟨j, _, h1, h2, h3, h4⟩ := lev_pos hs hv hk
    exact Or.inr ⟨j, h1, h2, h3, h4⟩
  · have h' : ∀ k, wk nx n s k v = false := fun k => by
      cases h2 : wk nx n s k v with
      | false => rfl
      | true => exact absurd ⟨k, h2⟩ h
    refine .inl ⟨?_, h'⟩
    unfold lev
    rw [List.find?_eq_none.2 (fun x _ => by simp [h' x])]
theorem lev_ok (nx : Nat → List Int) (n s : Nat) (hs : s < n) : LevOk nx n s (lev nx n s) := by
  refine ⟨fun v hv => ?_, fun v hv => ?_, fun u v hu hv hm h0 => ?_, fun v hv h0 => ?_⟩
  · rcases lev_cases (nx := nx) hs hv with ⟨h, _⟩ | ⟨j, _, h, _⟩ <;> omega
  · constructor
    · intro h
      rcases lev_cases (nx := nx) hs hv with ⟨h1, _⟩ | ⟨j, _, h1, h2, _⟩
      · omega
      · have : j = 0 := by omega
        subst this
        simpa [wk] using h2
    · rintro rfl
      obtain ⟨j, hj, _, h1, _⟩ := lev_pos (nx := nx) (k := 0) hs hv (by simp [wk])
      omega
  · rcases lev_cases (nx := nx) hs hu with ⟨h1, _⟩ | ⟨j, _, h1, h2, _⟩
    · omega
    · obtain ⟨i, hi, _, h3, _⟩ := lev_pos hs hv (wk_succ.2 ⟨u, hu, h2, hm⟩)
      omega
  · rcases lev_cases (nx := nx) hs hv with ⟨h1, _⟩ | ⟨j, _, h1, h2, h3⟩
    · omega
    · obtain ⟨k, rfl⟩ : ∃ k, j = k + 1 := ⟨j - 1, by omega⟩
      obtain ⟨u, hu, h4, h5⟩ := wk_succ.1 h2
      refine ⟨u, hu, ?_, h5⟩
      obtain ⟨i, hi, _, h6, h7, _⟩ := lev_pos hs hu h4
      have : i = k := by
        by_cases h : i = k
        · exact h
        · have := h3 (i + 1) (by omega)
          rw [wk_succ.2 ⟨u, hu, h7, h5⟩] at this; cases this
      omega
theorem lev_lt {nx : Nat → List Int} {n s v : Nat} (hs : s < n) (hv : v < n) : lev nx n s v < n := by
  rcases lev_cases (nx := nx) hs hv with ⟨h, _⟩ | ⟨j, hj, h, _⟩ <;> omega
end Go.Proofs.YthlmcfbadhidbaaGreat
/- Levels that are lowered edge by edge come to what levels are. -/
namespace Go.Proofs.YthlmcfbadhidbaaGreat
open Go Go.RowKit
/-- one edge -/
def bf1 (X : List Int) (x : Int × Int) : List Int :=
  if 0 ≤ nth X x.1.toNat ∧ (nth X x.2.toNat < 0 ∨ nth X x.1.toNat + 1 < nth X x.2.toNat) then X.set x.2.toNat (nth X x.1.toNat + 1) else X
def bfR (l : List (Int × Int)) (X : List Int) : List Int := l.foldl bf1 X
def bfN (l : List (Int × Int)) (X : List Int) : Nat → List Int
  | 0 => X
  | t + 1 => bfR l (bfN l X t)
theorem bf1_len (X : List Int) (x : Int × Int) : (bf1 X x).length = X.length := by unfold bf1; split <;> simp
theorem bfR_len (l : List (Int × Int)) : ∀ X, (bfR l X).length = X.length := by
  induction l with
  | nil => intro X; rfl
  | cons a l ih => intro X; unfold bfR at *; rw [List.foldl_cons, ih, bf1_len]
theorem bfN_len (l : List (Int × Int)) (X : List Int) : ∀ t, (bfN l X t).length = X.length
  | 0 => rfl
  | t + 1 => by rw [bfN, bfR_len, bfN_len l X t]
theorem bfR_take {l : List (Int × Int)} {X : List Int} {i : Nat} (h : i < l.length) : bfR (l.take (i + 1)) X = bf1 (bfR (l.take i) X) (nth l i) := by
  unfold bfR; rw [take_succ_nth l i h, List.foldl_append]; rfl
theorem nth_set (X : List Int) (i j : Nat) (a : Int) (hi : i < X.length) : nth (X.set i a) j = if j = i then a else nth X j := by
  unfold nth
  rw [List.getD_eq_getElem?_getD, List.getD_eq_getElem?_getD, List.getElem?_set]
  by_cases h : i = j
  · subst h; simp [hi]
  · rw [if_neg h, if_neg (fun e => h e.symm)]
section
variable {nx : Nat → List Int} {n s : Nat} (hs : s < n) {l : List (Int × Int)}
  (hr : ∀ x ∈ l, 0 ≤ x.1 ∧ x.1 < n ∧ 0 ≤ x.2 ∧ x.2 < n) (hl : ∀ u v : Nat, u < n → v < n → (((u : Int), (v : Int)) ∈ l ↔ (v : Int) ∈ nx u))
/-- no number is less than a level -/
def Low (nx : Nat → List Int) (n s : Nat) (X : List Int) : Prop := X.length = n ∧ ∀ v, v < n → nth X v = -1 ∨ (0 ≤ lev nx n s v ∧ lev nx n s v ≤ nth X v)
include hs hr hl in
theorem bf1_low {X : List Int} (h : Low nx n s X) {x : Int × Int} (hx : x ∈ l) : Low nx n s (bf1 X x) ∧ (∀ v, v < n → 0 ≤ lev nx n s v → nth X v = lev nx n s v → nth (bf1 X x) v = lev nx n s v) ∧
    (0 ≤ lev nx n s x.1.toNat → nth X x.1.toNat = lev nx n s x.1.toNat → lev nx n s x.2.toNat = lev nx n s x.1.toNat + 1 → nth (bf1 X x) x.2.toNat = lev nx n s x.2.toNat) := by
  obtain ⟨h1, h2, h3, h4⟩ := hr x hx
  have hm : ((x.2.toNat : Nat) : Int) ∈ nx x.1.toNat := by
    rw [← hl x.1.toNat x.2.toNat (by omega) (by omega)]
    rw [Int.toNat_of_nonneg h1, Int.toNat_of_nonneg h3]; exact hx
  have hn := (lev_ok nx n s hs).next x.1.toNat x.2.toNat (by omega) (by omega) hm
  have hlo := h.2 x.1.toNat (by omega)
  have hlo2 := h.2 x.2.toNat (by omega)
  generalize hu : x.1.toNat = u at *
  generalize hw : x.2.toNat = w at *
  have hwn : w < X.length := by have := h.1; omega
  unfold bf1
  rw [hu, hw]
  by_cases hc : 0 ≤ nth X u ∧ (nth X w < 0 ∨ nth X u + 1 < nth X w)
  · rw [if_pos hc]
    have hle : 0 ≤ lev nx n s w ∧ lev nx n s w ≤ nth X u + 1 := by omega
    refine ⟨⟨by rw [List.length_set]; exact h.1, fun v hv => ?_⟩, fun v hv h0 he => ?_, fun h0 he he2 => ?_⟩
    · rw [nth_set _ _ _ _ hwn]
      split
      · rename_i e; subst e; exact .inr hle
      · exact h.2 v hv
    · rw [nth_set _ _ _ _ hwn]
      split
      · rename_i e; subst e; omega
      · exact he
    · rw [nth_set _ _ _ _ hwn, if_pos rfl]; omega
  · rw [if_neg hc]
    refine ⟨h, fun v hv h0 he => he, fun h0 he he2 => ?_⟩
    omega
include hs hr hl in
theorem bfR_low : ∀ (k : List (Int × Int)) (X : List Int), (∀ x ∈ k, x ∈ l) → Low nx n s X → Low nx n s (bfR k X) ∧ (∀ v, v < n → 0 ≤ lev nx n s v → nth X v = lev nx n s v → nth (bfR k X) v = lev nx n s v) ∧
    (∀ x ∈ k, 0 ≤ lev nx n s x.1.toNat → nth X x.1.toNat = lev nx n s x.1.toNat → lev nx n s x.2.toNat = lev nx n s x.1.toNat + 1 → nth (bfR k X) x.2.toNat = lev nx n s x.2.toNat)
  | [], X, _, h => ⟨h, fun _ _ _ e => e, fun _ hx => nomatch hx⟩
  | a :: k, X, hk, h => by
    obtain ⟨h1, h2, h3⟩ := bf1_low hs hr hl h (hk a (List.mem_cons_self ..))
    obtain ⟨g1, g2, g3⟩ := bfR_low k (bf1 X a) (fun x hx => hk x (List.mem_cons_of_mem _ hx)) h1
    refine ⟨g1, fun v hv h0 he => g2 v hv h0 (h2 v hv h0 he), fun x hx h0 he he2 => ?_⟩
    obtain ⟨r1, r2, r3, r4⟩ := hr x (hk x hx)
    rcases List.mem_cons.1 hx with rfl | hx
    · exact g2 _ (by omega) (by omega) (h3 h0 he he2)
    · exact g3 x hx h0 (h2 _ (by omega) h0 he) he2
include hs hr hl in
theorem bfN_upto {X : List Int} (h : Low nx n s X) (h0 : nth X s = 0) : ∀ t, Low nx n s (bfN l X t) ∧ ∀ v, v < n → 0 ≤ lev nx n s v → lev nx n s v ≤ t → nth (bfN l X t) v = lev nx n s v
  | 0 => ⟨h, fun v hv h1 h2 => by
    have h3 : lev nx n s v = 0 := by omega
    have := ((lev_ok nx n s hs).zero v hv).1 h3
    subst this
    rw [h3]; exact h0⟩
  | t + 1 => by
    obtain ⟨h1, h2⟩ := bfN_upto h h0 t
    obtain ⟨g1, g2, g3⟩ := bfR_low hs hr hl l (bfN l X t) (fun _ hx => hx) h1
    refine ⟨g1, fun v hv h3 h4 => ?_⟩
    by_cases h5 : lev nx n s v ≤ t
    · exact g2 v hv h3 (h2 v hv h3 h5)
    · obtain ⟨u, hu, h6, h7⟩ := (lev_ok nx n s hs).pred v hv (by omega)
      have h8 := g3 ((u : Int), (v : Int)) ((hl u v hu hv).2 h7)
      simp only [Int.toNat_natCast] at h8
      exact h8 (by omega) (h2 u hu (by omega) (by omega)) (by omega)
include hs hr hl in
theorem bfN_lev {X : List Int} (h : Low nx n s X) (h0 : nth X s = 0) : bfN l X n = (List.range n).map fun v => lev nx n s v := by
  obtain ⟨h1, h2⟩ := bfN_upto hs hr hl h h0 n
  apply List.ext_getElem
  · rw [h1.1]; simp
  · intro v hv1 hv2
    have hv : v < n := by simpa using hv2
    rw [← nth_eq hv1]
    simp only [List.getElem_map, List.getElem_range]
    rcases lev_cases (nx := nx) hs hv with ⟨h3, h4⟩ | ⟨j, hj, h3, _⟩
    · rcases h1.2 v hv with h5 | h5
      · rw [h5, h3]
      · omega
    · exact h2 v hv (by omega) (by omega)
end
/-- the row that is begun with -/
def bf0 (n s : Nat) : List Int := (List.replicate n (-1)).set s 0
theorem bf0_nth {n s : Nat} (hs : s < n) (v : Nat) (hv : v < n) : nth (bf0 n s) v = if v = s then 0 else -1 := by
  unfold bf0
  rw [nth_set _ _ _ _ (by simpa using hs)]
  split
  · rfl
  · rw [nth_eq (by simpa using hv)]; simp
theorem bf0_low {nx : Nat → List Int} {n s : Nat} (hs : s < n) : Low nx n s (bf0 n s) := by
  refine ⟨by simp [bf0], fun v hv => ?_⟩
  rw [bf0_nth hs v hv]
  split
  · rename_i e; subst e
    have := ((lev_ok nx n v hs).zero v hv).2 rfl
    omega
  · exact .inl rfl
/-- each number is small -/
theorem bf1_small {X : List Int} {x : Int × Int} {B : Int} (_ : -1 ≤ B) (h : ∀ v, -1 ≤ nth X v ∧ nth X v ≤ B) : ∀ v, -1 ≤ nth (bf1 X x) v ∧ nth (bf1 X x) v ≤ B + 1 := by
  intro v
  unfold bf1
  have h1 := h v
  have h2 := h x.1.toNat
  split
  · by_cases hw : x.2.toNat < X.length
    · rw [nth_set _ _ _ _ hw]
      split <;> omega
    · rw [List.set_eq_of_length_le (by omega)]; omega
  · omega
theorem rep_set {n v : Nat} (hv : v < n) : (List.replicate v (-1 : Int) ++ List.replicate (n - v) 0).set v (-1) = List.replicate (v + 1) (-1) ++ List.replicate (n - (v + 1)) 0 := by
  obtain ⟨m, rfl⟩ : ∃ m, n = v + 1 + m := ⟨n - v - 1, by omega⟩
  rw [show v + 1 + m - v = m + 1 by omega, show v + 1 + m - (v + 1) = m by omega, List.replicate_succ (n := m), List.replicate_succ' (n := v)]
  rw [List.set_append_right _ _ (by simp)]
  simp
theorem bfR_bd {l : List (Int × Int)} {B : Int} : ∀ i X, 0 ≤ B → (∀ v, -1 ≤ nth X v ∧ nth X v ≤ B) → ∀ v, -1 ≤ nth (bfR (l.take i) X) v ∧ nth (bfR (l.take i) X) v ≤ B + i
  | 0, X, _, h => fun v => by have := h v; simp [bfR]; omega
  | i + 1, X, hB, h => fun v => by
    by_cases hi : i < l.length
    · rw [bfR_take hi]
      have := bf1_small (x := nth l i) (B := B + i) (by omega) (bfR_bd (l := l) i X hB h) v
      omega
    · have := bfR_bd (l := l) i X hB h v
      rw [List.take_of_length_le (by omega : l.length ≤ i + 1)]
      rw [List.take_of_length_le (by omega : l.length ≤ i)] at this
      omega
theorem bf0_bd (n s : Nat) (v : Nat) : -1 ≤ nth (bf0 n s) v ∧ nth (bf0 n s) v ≤ 0 := by
  unfold bf0
  by_cases h : s < n
  · rw [nth_set _ _ _ _ (by simpa using h)]
    split
    · omega
    · by_cases hv : v < n
      · rw [nth_eq (by simpa using hv)]; simp
      · unfold nth; simp [hv]
  · rw [List.set_eq_of_length_le (by simp; omega)]
    by_cases hv : v < n
    · rw [nth_eq (by simpa using hv)]; simp
    · unfold nth; simp [hv]
theorem bfN_bd {l : List (Int × Int)} {n s : Nat} : ∀ t v, -1 ≤ nth (bfN l (bf0 n s) t) v ∧ nth (bfN l (bf0 n s) t) v ≤ (t * l.length : Nat)
  | 0, v => by have := bf0_bd n s v; simp [bfN]; omega
  | t + 1, v => by
    have := bfR_bd (l := l) l.length (bfN l (bf0 n s) t) (by omega) (bfN_bd t) v
    rw [List.take_length] at this
    rw [bfN, Nat.add_mul, Nat.one_mul]
    omega
end Go.Proofs.YthlmcfbadhidbaaGreat
/- Two searches, from both ends: how far, when they meet, the path, in plain words. -/
namespace Go.Proofs.YthlmcfbadhidbaaGreat
open Go Go.RowKit
theorem wk_zero {nx : Nat → List Int} {n s v : Nat} : wk nx n s 0 v = true ↔ v = s := by simp [wk]
theorem wk_bound {nx : Nat → List Int} {n s : Nat} (_ : s < n) : ∀ {k v : Nat}, v < n → wk nx n s k v = true → v < n := fun hv _ => hv
/-- a walk's first way -/
theorem wk_front {nx : Nat → List Int} {n s : Nat} (hs : s < n) : ∀ {k v : Nat}, v < n → (wk nx n s (k + 1) v = true ↔ ∃ u, u < n ∧ (u : Int) ∈ nx s ∧ wk nx n u k v = true)
  | 0, v, hv => by
    rw [wk_succ]
    constructor
    · rintro ⟨u, hu, h1, h2⟩
      have := wk_zero.1 h1; subst this
      exact ⟨v, hv, h2, wk_zero.2 rfl⟩
    · rintro ⟨u, hu, h1, h2⟩
      have := wk_zero.1 h2; subst this
      exact ⟨s, hs, wk_zero.2 rfl, h1⟩
  | k + 1, v, hv => by
    rw [wk_succ]
    constructor
    · rintro ⟨u, hu, h1, h2⟩
      obtain ⟨x, hx, h3, h4⟩ := (wk_front hs hu).1 h1
      exact ⟨x, hx, h3, wk_succ.2 ⟨u, hu, h4, h2⟩⟩
    · rintro ⟨x, hx, h3, h4⟩
      obtain ⟨u, hu, h5, h6⟩ := wk_succ.1 h4
      exact ⟨u, hu, (wk_front hs hu).2 ⟨x, hx, h3, h5⟩, h6⟩
theorem wk_trans {nx : Nat → List Int} {n s v : Nat} {a : Nat} (h1 : wk nx n s a v = true) : ∀ b t, t < n → wk nx n v b t = true → wk nx n s (a + b) t = true
  | 0, t, _, h2 => by have := wk_zero.1 h2; subst this; exact h1
  | b + 1, t, _, h2 => by
    obtain ⟨u, hu, h3, h4⟩ := wk_succ.1 h2
    exact wk_succ.2 ⟨u, hu, wk_trans h1 b u hu h3, h4⟩
theorem wk_split {nx : Nat → List Int} {n s : Nat} {a : Nat} : ∀ b t, t < n → wk nx n s (a + b) t = true → ∃ v, v < n ∧ wk nx n s a v = true ∧ wk nx n v b t = true
  | 0, t, ht, h => ⟨t, ht, h, wk_zero.2 rfl⟩
  | b + 1, t, ht, h => by
    obtain ⟨u, hu, h1, h2⟩ := wk_succ.1 h
    obtain ⟨v, hv, h3, h4⟩ := wk_split b u hu h1
    exact ⟨v, hv, h3, wk_succ.2 ⟨u, hu, h4, h2⟩⟩
/-- each place's next ones are those of which it is a next one, turned -/
def Rev (nx nb : Nat → List Int) (n : Nat) : Prop := ∀ u v : Nat, u < n → v < n → ((v : Int) ∈ nx u ↔ (u : Int) ∈ nb v)
theorem wk_rev {nx nb : Nat → List Int} {n : Nat} (h : Rev nx nb n) : ∀ k s v, s < n → v < n → (wk nx n s k v = true ↔ wk nb n v k s = true)
  | 0, s, v, _, _ => by rw [wk_zero, wk_zero]; exact ⟨fun e => e.symm, fun e => e.symm⟩
  | k + 1, s, v, hs, hv => by
    rw [wk_succ, wk_front hv hs]
    constructor
    · rintro ⟨u, hu, h1, h2⟩
      exact ⟨u, hu, (h u v hu hv).1 h2, (wk_rev h k s u hs hu).1 h1⟩
    · rintro ⟨u, hu, h1, h2⟩
      exact ⟨u, hu, (wk_rev h k s u hs hu).2 h2, (h u v hu hv).2 h1⟩
/-- back from one place as from the other -/
theorem lev_rev {nx nb : Nat → List Int} {n s t : Nat} (h : Rev nx nb n) (hs : s < n) (ht : t < n) : lev nx n s t = lev nb n t s := by
  have e : ∀ k, wk nx n s k t = wk nb n t k s := fun k => by rw [Bool.eq_iff_iff]; exact wk_rev h k s t hs ht
  unfold lev
  rw [show (fun k => wk nx n s k t) = fun k => wk nb n t k s from funext e]
theorem lev_wk {nx : Nat → List Int} {n s v : Nat} (hs : s < n) (hv : v < n) (h : 0 ≤ lev nx n s v) : wk nx n s (lev nx n s v).toNat v = true := by
  rcases lev_cases (nx := nx) hs hv with ⟨h1, _⟩ | ⟨j, _, h1, h2, _⟩
  · omega
  · rw [h1]; exact h2
theorem lev_le {nx : Nat → List Int} {n s v k : Nat} (hs : s < n) (hv : v < n) (h : wk nx n s k v = true) : 0 ≤ lev nx n s v ∧ lev nx n s v ≤ k := by
  obtain ⟨j, h1, _, h2, _⟩ := lev_pos hs hv h; omega
section
variable {nx nb : Nat → List Int} {n s t : Nat} (h : Rev nx nb n) (hs : s < n) (ht : t < n)
include h hs ht in
/-- over a place that both have it is no shorter -/
theorem lev_over {v : Nat} (hv : v < n) (h1 : 0 ≤ lev nx n s v) (h2 : 0 ≤ lev nb n t v) : 0 ≤ lev nx n s t ∧ lev nx n s t ≤ lev nx n s v + lev nb n t v := by
  have g1 := lev_wk hs hv h1
  have g2 := (wk_rev h _ v t hv ht).2 (lev_wk ht hv h2)
  have g3 := lev_le hs ht (wk_trans g1 _ t ht g2)
  omega
include h hs ht in
/-- on a shortest walk there is a place of each level -/
theorem lev_mid {j : Nat} (h0 : 0 ≤ lev nx n s t) (hj : j ≤ lev nx n s t) : ∃ v, v < n ∧ lev nx n s v = j ∧ lev nb n t v = lev nx n s t - j := by
  have g := lev_wk hs ht h0
  rw [show (lev nx n s t).toNat = j + ((lev nx n s t).toNat - j) by omega] at g
  obtain ⟨v, hv, g1, g2⟩ := wk_split _ t ht g
  have g3 := lev_le hs hv g1
  have g4 := lev_le ht hv ((wk_rev h _ v t hv ht).1 g2)
  have g5 := lev_over h hs ht hv g3.1 g4.1
  exact ⟨v, hv, by omega, by omega⟩
end
/-- levels up to k -/
def cut (f : Nat → Int) (k : Int) (v : Nat) : Int := if 0 ≤ f v ∧ f v ≤ k then f v else -1
theorem cut_ge {f : Nat → Int} {k : Int} {v : Nat} : 0 ≤ cut f k v ↔ 0 ≤ f v ∧ f v ≤ k := by unfold cut; split <;> omega
theorem cut_eq {f : Nat → Int} {k : Int} {v : Nat} (h : 0 ≤ cut f k v) : cut f k v = f v := by unfold cut at *; split at h <;> simp_all
/-- a place that both have -/
def meetB (n : Nat) (f g : Nat → Int) (k : Int) : Bool := (List.range n).any fun v => decide (0 ≤ f v) && decide (f v ≤ k) && decide (0 ≤ g v) && decide (g v ≤ k)
theorem meetB_iff {n : Nat} {f g : Nat → Int} {k : Int} : meetB n f g k = true ↔ ∃ v, v < n ∧ 0 ≤ f v ∧ f v ≤ k ∧ 0 ≤ g v ∧ g v ≤ k := by
  simp [meetB, and_assoc]
/-- is a level there? -/
def hasL (n : Nat) (f : Nat → Int) (k : Int) : Bool := (List.range n).any fun v => f v == k
theorem hasL_iff {n : Nat} {f : Nat → Int} {k : Int} : hasL n f k = true ↔ ∃ v, v < n ∧ f v = k := by
  simp [hasL]
section
variable {nx nb : Nat → List Int} {n s t : Nat} (h : Rev nx nb n) (hs : s < n) (ht : t < n)
include h hs ht in
theorem meet_lev {k : Nat} : meetB n (lev nx n s) (lev nb n t) k = true ↔ 0 ≤ lev nx n s t ∧ lev nx n s t ≤ 2 * (k : Int) := by
  rw [meetB_iff]
  constructor
  · rintro ⟨v, hv, h1, h2, h3, h4⟩
    have := lev_over h hs ht hv h1 h3; omega
  · rintro ⟨h1, h2⟩
    by_cases h3 : lev nx n s t ≤ k
    · obtain ⟨v, hv, g1, g2⟩ := lev_mid h hs ht (j := (lev nx n s t).toNat) h1 (by omega)
      exact ⟨v, hv, by omega, by omega, by omega, by omega⟩
    · obtain ⟨v, hv, g1, g2⟩ := lev_mid h hs ht (j := k) h1 (by omega)
      exact ⟨v, hv, by omega, by omega, by omega, by omega⟩
include hs in
theorem has_below {k j : Nat} (hj : j ≤ k) (hk : hasL n (lev nx n s) k = true) : hasL n (lev nx n s) j = true := by
  obtain ⟨v, hv, h1⟩ := hasL_iff.1 hk
  have g := lev_wk (nx := nx) hs hv (by omega)
  rw [h1, Int.toNat_natCast, show k = j + (k - j) by omega] at g
  obtain ⟨u, hu, g1, g2⟩ := wk_split _ v hv g
  have g3 := lev_le hs hu g1
  have g4 := lev_wk (nx := nx) hs hu g3.1
  have g5 := lev_le hs hv (wk_trans g4 _ v hv g2)
  exact hasL_iff.2 ⟨u, hu, by omega⟩
include hs in
theorem has_lt {k : Nat} (hk : hasL n (lev nx n s) k = true) : k < n := by
  obtain ⟨v, hv, h1⟩ := hasL_iff.1 hk
  have := lev_lt (nx := nx) hs hv; omega
include hs in
theorem has_0 : hasL n (lev nx n s) 0 = true := hasL_iff.2 ⟨s, hs, ((lev_ok nx n s hs).zero s hs).2 rfl⟩
end
/-- how many steps both searches take, from k on -/
def stepsK (n : Nat) (f g : Nat → Int) : Nat → Nat → Nat
  | 0, k => k
  | m + 1, k => if meetB n f g k = true then k else if hasL n f (k + 1) = true ∧ hasL n g (k + 1) = true then stepsK n f g m (k + 1) else k
def stepsN (n : Nat) (f g : Nat → Int) : Nat := stepsK n f g (n + 1) 0
section
variable {nx nb : Nat → List Int} {n s t : Nat} (h : Rev nx nb n) (hs : s < n) (ht : t < n)
include h hs ht in
theorem steps_yes (h0 : 0 ≤ lev nx n s t) : ∀ m k, n < k + m → 2 * (k:Int) ≤ lev nx n s t + 1 → stepsK n (lev nx n s) (lev nb n t) m k = ((lev nx n s t + 1) / 2).toNat
  | 0, k, hm, hk => by have := lev_lt (nx := nx) hs ht; omega
  | m + 1, k, hm, hk => by
    unfold stepsK
    by_cases h1 : meetB n (lev nx n s) (lev nb n t) k = true
    · rw [if_pos h1]
      have := (meet_lev h hs ht).1 h1; omega
    · rw [if_neg h1]
      have h2 : 2 * (k:Int) < lev nx n s t := by
        have := mt (meet_lev h hs ht (k := k)).2 h1; omega
      have h3 : hasL n (lev nx n s) ((k:Int) + 1) = true := by
        obtain ⟨v, hv, g1, _⟩ := lev_mid h hs ht (j := k + 1) h0 (by omega)
        exact hasL_iff.2 ⟨v, hv, by omega⟩
      have h4 : hasL n (lev nb n t) ((k:Int) + 1) = true := by
        obtain ⟨v, hv, _, g1⟩ := lev_mid h hs ht (j := (lev nx n s t).toNat - (k + 1)) h0 (by omega)
        exact hasL_iff.2 ⟨v, hv, by omega⟩
      rw [if_pos ⟨h3, h4⟩]
      exact steps_yes h0 m (k + 1) (by omega) (by omega)
include h hs ht in
theorem steps_no (h0 : lev nx n s t < 0) : ∀ m k, n < k + m → (k = 0 ∨ (hasL n (lev nx n s) k = true ∧ hasL n (lev nb n t) k = true)) → stepsK n (lev nx n s) (lev nb n t) m k < n
  | 0, k, hm, hk => by
    rcases hk with hk | hk
    · omega
    · have := has_lt hs hk.1; omega
  | m + 1, k, hm, hk => by
    unfold stepsK
    have h1 : ¬ meetB n (lev nx n s) (lev nb n t) k = true := fun h1 => by
      have := (meet_lev h hs ht).1 h1; omega
    rw [if_neg h1]
    split
    · rename_i h2
      exact steps_no h0 m (k + 1) (by omega) (.inr (by exact_mod_cast h2))
    · rcases hk with hk | hk
      · omega
      · exact has_lt hs hk.1
end
/-- the path: from each place to the first one that is a step nearer -/
def stepL (nx : Nat → List Int) (g : Nat → Int) (u : Nat) : Nat := (((nx u).find? fun x => g x.toNat == g u - 1).getD 0).toNat
def pathL (nx : Nat → List Int) (g : Nat → Int) : Nat → Nat → List Nat
  | 0, u => [u]
  | k + 1, u => u :: pathL nx g k (stepL nx g u)
theorem pathL_len (nx : Nat → List Int) (g : Nat → Int) : ∀ k u, (pathL nx g k u).length = k + 1
  | 0, _ => rfl
  | k + 1, u => by rw [pathL, List.length_cons, pathL_len nx g k]
end Go.Proofs.YthlmcfbadhidbaaGreat
/- The reference's All and Any; the program's, in the same words. -/
namespace Go.Proofs.YthlmcfbadhidbaaGreat
open Go Go.RowKit Go.Maps
def allK (L : List Po) (ws : List ByteArray) (k : Nat) : List Int := putAll ltI ((findL L (nth ws 0)).filter fun x => (ws.take k).all fun u => (findL L u).contains x)
theorem allK_mem {L : List Po} {ws : List ByteArray} {k : Nat} {x : Int} : x ∈ allK L ws k ↔ (x ∈ findL L (nth ws 0) ∧ ∀ u ∈ ws.take k, x ∈ findL L u) := by
  unfold allK
  rw [putAll_mem stoI, List.mem_filter, List.all_eq_true]
  simp
theorem allK_one {L : List Po} {ws : List ByteArray} (h : 0 < ws.length) : allK L ws 1 = putAll ltI (findL L (nth ws 0)) := by
  refine rises_uniq stoI _ _ (putAll_rises stoI _) (putAll_rises stoI _) fun x => ?_
  rw [allK_mem, putAll_mem stoI, take_succ_nth ws 0 h]
  simp
theorem allK_step {L : List Po} {ws : List ByteArray} {k : Nat} (h : k < ws.length) : bothS (allK L ws k) (findL L (nth ws k)) = allK L ws (k + 1) := by
  refine rises_uniq stoI _ _ (putAll_rises stoI _) (putAll_rises stoI _) fun x => ?_
  rw [allK_mem]
  unfold bothS
  rw [putAll_mem stoI, List.mem_filter, allK_mem, inB_iff, take_succ_nth ws k h]
  constructor
  · rintro ⟨⟨h1, h2⟩, h3⟩
    refine ⟨h1, fun u hu => ?_⟩
    rcases List.mem_append.1 hu with hu | hu
    · exact h2 u hu
    · rw [List.mem_singleton] at hu; subst hu; exact h3
  · rintro ⟨h1, h2⟩
    exact ⟨⟨h1, fun u hu => h2 u (List.mem_append_left _ hu)⟩, h2 _ (by simp)⟩
theorem allK_len {L : List Po} (hok : PoOk L) (ws : List ByteArray) (k : Nat) : (allK L ws k).length ≤ 1000 := by
  unfold allK
  exact Nat.le_trans (putAll_len _ _) (Nat.le_trans (List.length_filter_le _ _) (findL_ok hok _).1)
theorem allK_end {L : List Po} {ws : List ByteArray} {k : Nat} (h : ws.length ≤ k) : allK L ws k = allS L ws := by
  unfold allK allS; rw [List.take_of_length_le h]
theorem flat_len {L : List Po} (hok : PoOk L) (ws : List ByteArray) : (ws.flatMap (findL L)).length ≤ 1000 * ws.length := by
  induction ws with
  | nil => simp
  | cons a ws ih => rw [List.flatMap_cons, List.length_append, List.length_cons]; have := (findL_ok hok a).1; omega
theorem flat_step {L : List Po} {ws : List ByteArray} {k : Nat} (h : k < ws.length) : (ws.take (k + 1)).flatMap (findL L) = (ws.take k).flatMap (findL L) ++ findL L (nth ws k) := by
  rw [take_succ_nth ws k h, List.flatMap_append]; simp
end Go.Proofs.YthlmcfbadhidbaaGreat
/- Postings in memory of their own; the same; too many; few words. -/
namespace Go.Proofs.YthlmcfbadhidbaaGreat
open Go Go.RowKit Go.Maps
theorem own_small {w : World} {base : Nat} {e : TypeId} {size : Nat} {q : Option Addr} {n c : Nat} {xs : List Value} (h : w.ownsRow base e size (.slice q n c) n xs) : n ≤ 9223372036854775807 := by
  rcases h.2 with ⟨_, h2⟩ | ⟨g, cap, cur, h1, _, _, h3, h4, _⟩
  · omega
  · unfold maxLen at h4; omega
def encPo (L : List Po) (hs : List Hd) : List Value := (L.zip hs).flatMap fun x => [.string x.1.1, x.2.v]
theorem encPo_len : ∀ (L : List Po) (hs : List Hd), hs.length = L.length → (encPo L hs).length = L.length * 2
  | [], _, _ => by simp [encPo]
  | p :: L, [], h => by simp at h
  | p :: L, a :: hs, h => by
    have := encPo_len L hs (by simpa using h)
    unfold encPo at this ⊢
    rw [List.zip_cons_cons, List.flatMap_cons, List.length_append, this, List.length_cons]; simp; omega
theorem encPo_get : ∀ (L : List Po) (hs : List Hd) (k : Nat), hs.length = L.length → k < L.length → (encPo L hs).getD (k * 2) undef = .string (nth L k).1 ∧ (encPo L hs).getD (k * 2 + 1) undef = (nth hs k).v
  | [], _, k, _, h => by simp at h
  | p :: L, [], _, h, _ => by simp at h
  | p :: L, a :: hs, 0, _, _ => ⟨rfl, rfl⟩
  | p :: L, a :: hs, k + 1, h, hk => by
    have := encPo_get L hs k (by simpa using h) (by simpa using hk)
    have e1 : (k + 1) * 2 = k * 2 + 1 + 1 := by omega
    have e2 : nth (p :: L) (k + 1) = nth L k := rfl
    have e3 : nth (a :: hs) (k + 1) = nth hs k := rfl
    rw [e1, e2, e3]
    exact this
theorem encPo_snoc (L : List Po) (hs : List Hd) (p : Po) (a : Hd) (h : hs.length = L.length) : encPo (L ++ [p]) (hs ++ [a]) = encPo L hs ++ [.string p.1, a.v] := by
  unfold encPo
  rw [List.zip_append h.symm, List.flatMap_append]; rfl
def rowsP (L : List Po) (hs : List Hd) : List (Hd × List Value) := hs.zip (L.map fun p => encI p.2)
theorem rowsP_snoc (L : List Po) (hs : List Hd) (p : Po) (a : Hd) (h : hs.length = L.length) : rowsP (L ++ [p]) (hs ++ [a]) = rowsP L hs ++ [(a, encI p.2)] := by
  unfold rowsP
  rw [List.map_append, List.zip_append (by simpa using h)]; rfl
theorem rowsP_at {L : List Po} {hs : List Hd} {k : Nat} (h : hs.length = L.length) (hk : k < L.length) : (nth hs k, encI (nth L k).2) ∈ rowsP L hs := by
  unfold rowsP
  rw [List.mem_iff_getElem]
  refine ⟨k, by simp; omega, ?_⟩
  rw [List.getElem_zip, nth_eq (by omega), nth_eq hk, List.getElem_map]
theorem one_P (a : ByteArray) (p : Option Addr) (m d : Nat) : ∀ u ∈ [Value.string a, Value.slice p m d], u.oneCell' = true := by intro u hu; simp at hu; rcases hu with rfl | rfl <;> rfl
end Go.Proofs.YthlmcfbadhidbaaGreat
/- The library's sort of texts, onto a row of the call's own. -/
namespace Go.Proofs.YthlmcfbadhidbaaGreat
open Go Go.RowKit Go.Shelf Go.Lib Go.Sort
theorem bl_lt : ∀ a b : List UInt8, Op.bytesLess a b = decide (a < b)
  | [], [] => by simp [Op.bytesLess]
  | [], _ :: _ => by simp [Op.bytesLess]
  | _ :: _, [] => by simp [Op.bytesLess]
  | a :: x, b :: y => by
    have ih := bl_lt x y
    rw [Bool.eq_iff_iff]
    simp only [Op.bytesLess, Bool.or_eq_true, Bool.and_eq_true, decide_eq_true_eq, beq_iff_eq, List.cons_lt_cons_iff]
    rw [ih, decide_eq_true_eq]
def toBA (x : List UInt8) : ByteArray := ⟨x.toArray⟩
theorem toBA_toList (x : List UInt8) : (toBA x).toList = x := by rw [ByteArray.toList_eq]; simp [toBA]
theorem putRow_gen {α : Type} [Inhabited α] (enc : α → Value) (w : World) (g : Nat) (l : List α) : putRow enc w g 0 l.toArray = putRow id w g 0 (l.map enc).toArray := by
  unfold putRow
  congr 1
  funext c
  unfold putCells
  apply Array.ext_getElem?
  intro i
  simp only [Array.getElem?_mapIdx]
  cases c[i]? with
  | none => rfl
  | some v =>
    simp only [Option.map_some]
    by_cases h : i < l.length
    · simp [h]
    · simp [h]
def sortT (l : List ByteArray) : List ByteArray := ((l.map fun s => s.data.toList).mergeSort fun x y => decide (x ≤ y)).map toBA
theorem sortT_len (l : List ByteArray) : (sortT l).length = l.length := by simp [sortT]
theorem toBA_data (s : ByteArray) : toBA s.data.toList = s := by simp [toBA]
theorem sortT_perm (l : List ByteArray) : (sortT l).Perm l := by
  unfold sortT
  have h := (List.mergeSort_perm (l.map fun s : ByteArray => s.data.toList) fun x y => decide (x ≤ y)).map toBA
  rw [List.map_map] at h
  have e : (toBA ∘ fun s : ByteArray => s.data.toList) = id := by funext s; exact toBA_data s
  rw [e, List.map_id] at h
  exact h
theorem sortT_rises {l : List ByteArray} (h : l.Nodup) : Rises sLess (sortT l) := by
  have h2 : (sortT l).Nodup := (sortT_perm l).nodup_iff.2 h
  have h1 : (sortT l).Pairwise fun a b => sLess b a = false := by
    unfold sortT
    rw [List.pairwise_map]
    have := List.pairwise_mergeSort (le := fun x y : List UInt8 => decide (x ≤ y)) (fun a b c h k => by simp only [decide_eq_true_eq] at *; exact List.le_trans h k) (fun a b => by simp only [Bool.or_eq_true, decide_eq_true_eq]; exact List.le_total a b) (l.map fun s : ByteArray => s.data.toList)
    refine this.imp ?_
    intro a b hab
    simp only [decide_eq_true_eq] at hab
    show Op.bytesLess (toBA b).toList (toBA a).toList = false
    rw [toBA_toList, toBA_toList, bl_lt]
    simpa using hab
  refine (h1.and h2).imp ?_
  rintro a b ⟨h3, h4⟩
  cases h5 : sLess a b with
  | true => rfl
  | false => exact (h4 (sLess_tri a b h5 h3)).elim
theorem sortT_put {l s : List ByteArray} (h : l.Nodup) (hm : ∀ x, x ∈ l ↔ x ∈ s) : sortT l = putAll sLess s :=
  rises_uniq stoS _ _ (sortT_rises h) (putAll_rises stoS s) fun x => by rw [(sortT_perm l).mem_iff, hm, putAll_mem stoS]
end Go.Proofs.YthlmcfbadhidbaaGreat
/- What postings of a graph's words are: gathered word by word, or by definition. No program in sight. -/
namespace Go.Proofs.YthlmcfbadhidbaaGreat
open Go Go.RowKit
/-- a place has a word: all such, in their order -/
abbrev Occ := Int × ByteArray
def occR (v : Nat) (l : List ByteArray) : List Occ := l.map fun s => ((v : Int), s)
def occK (W : List (List ByteArray)) (k : Nat) : List Occ := (List.range k).flatMap fun v => occR v (nth W v)
theorem occK_step (W : List (List ByteArray)) (k : Nat) : occK W (k + 1) = occK W k ++ occR k (nth W k) := by
  unfold occK; rw [List.range_succ, List.flatMap_append]; simp
theorem occR_len (v : Nat) (l : List ByteArray) : (occR v l).length = l.length := by simp [occR]
theorem occR_take (v : Nat) (l : List ByteArray) (j : Nat) (h : j < l.length) : occR v (l.take (j + 1)) = occR v (l.take j) ++ [((v : Int), nth l j)] := by
  unfold occR; rw [take_succ_nth l j h, List.map_append]; rfl
theorem occK_len {W : List (List ByteArray)} (h : ∀ l ∈ W, l.length ≤ 8) : ∀ k, k ≤ W.length → (occK W k).length ≤ 8 * k
  | 0, _ => by simp [occK]
  | k + 1, hk => by
    rw [occK_step, List.length_append, occR_len]
    have := occK_len h k (by omega)
    have h2 := h (nth W k) (by rw [nth_eq (by omega)]; exact List.getElem_mem _)
    omega
theorem occK_mem {W : List (List ByteArray)} {s : ByteArray} : (∃ x ∈ occK W W.length, x.2 = s) ↔ s ∈ W.flatten := by
  unfold occK occR
  simp only [List.mem_flatMap, List.mem_range, List.mem_map, List.mem_flatten]
  constructor
  · rintro ⟨x, ⟨v, hv, t, ht, rfl⟩, rfl⟩
    exact ⟨nth W v, by rw [nth_eq hv]; exact List.getElem_mem _, ht⟩
  · rintro ⟨l, hl, hs⟩
    obtain ⟨v, hv, rfl⟩ := List.mem_iff_getElem.1 hl
    exact ⟨((v : Int), s), ⟨v, hv, s, by rw [nth_eq hv]; exact hs, rfl⟩, rfl⟩
/-- a word's places -/
def plc (O : List Occ) (s : ByteArray) : List Int := (O.filter fun x => decide (x.2 = s)).map (·.1)
theorem plc_snoc (O : List Occ) (v : Int) (t s : ByteArray) : plc (O ++ [(v, t)]) s = if t = s then plc O s ++ [v] else plc O s := by
  unfold plc
  rw [List.filter_append, List.filter_cons]
  by_cases h : t = s <;> simp [h]
theorem plc_len (O : List Occ) (s : ByteArray) : (plc O s).length ≤ O.length := by unfold plc; rw [List.length_map]; exact List.length_filter_le _ _
theorem plc_nil {O : List Occ} {s : ByteArray} : plc O s = [] ↔ ∀ x ∈ O, x.2 ≠ s := by
  unfold plc
  rw [List.map_eq_nil_iff, List.filter_eq_nil_iff]
  simp
theorem nodup_ne {α : Type} {l : List α} (h : l.Nodup) {i j : Nat} (hi : i < l.length) (hj : j < l.length) (hne : i ≠ j) : l[i] ≠ l[j] := by
  rcases Nat.lt_or_gt_of_ne hne with h1 | h1
  · exact List.pairwise_iff_getElem.1 h i j hi hj h1
  · exact (List.pairwise_iff_getElem.1 h j i hj hi h1).symm
/-- what is gathered of the occurrences -/
structure Gath (O : List Occ) (A : List Po) : Prop where
  nodup : (A.map (·.1)).Nodup
  keys : ∀ s, s ∈ A.map (·.1) ↔ ∃ x ∈ O, x.2 = s
  at_ : ∀ p ∈ A, p.2 = plc O p.1
theorem Gath.nil : Gath [] [] := ⟨List.nodup_nil, fun s => by simp, fun p hp => by cases hp⟩
theorem Gath.new {O : List Occ} {A : List Po} (h : Gath O A) {v : Int} {s : ByteArray} (hs : s ∉ A.map (·.1)) : Gath (O ++ [(v, s)]) (A ++ [(s, [v])]) := by
  have hno : ∀ x ∈ O, x.2 ≠ s := fun x hx e => hs ((h.keys s).2 ⟨x, hx, e⟩)
  refine ⟨?_, fun t => ?_, fun p hp => ?_⟩
  · rw [List.map_append, List.nodup_append]
    refine ⟨h.nodup, by simp, fun a ha b hb => ?_⟩
    simp at hb; subst hb; rintro rfl; exact hs ha
  · rw [List.map_append, List.mem_append, h.keys t]
    constructor
    · rintro (⟨x, hx, e⟩ | ht)
      · exact ⟨x, List.mem_append_left _ hx, e⟩
      · simp at ht; subst ht; exact ⟨(v, t), by simp, rfl⟩
    · rintro ⟨x, hx, e⟩
      rcases List.mem_append.1 hx with hx | hx
      · exact .inl ⟨x, hx, e⟩
      · rw [List.mem_singleton] at hx; subst hx; right; simp [e.symm]
  · rw [plc_snoc]
    rcases List.mem_append.1 hp with hp1 | hp1
    · have hne : s ≠ p.1 := fun e => hs (by rw [e]; exact List.mem_map_of_mem hp1)
      rw [if_neg hne]; exact h.at_ p hp1
    · rw [List.mem_singleton] at hp1; subst hp1
      rw [if_pos rfl, plc_nil.2 hno]; rfl
theorem Gath.more {O : List Occ} {A : List Po} (h : Gath O A) {v : Int} {r : Nat} (hr : r < A.length) : Gath (O ++ [(v, (nth A r).1)]) (A.set r ((nth A r).1, (nth A r).2 ++ [v])) := by
  have hmap : (A.set r ((nth A r).1, (nth A r).2 ++ [v])).map (·.1) = A.map (·.1) := by
    rw [List.map_set]
    have e : (nth A r).1 = (A.map (·.1))[r]'(by simpa using hr) := by rw [nth_eq hr, List.getElem_map]
    show (A.map (·.1)).set r (nth A r).1 = _
    rw [e, List.set_getElem_self]
  refine ⟨by rw [hmap]; exact h.nodup, fun t => ?_, fun p hp => ?_⟩
  · rw [hmap, h.keys t]
    constructor
    · rintro ⟨x, hx, e⟩; exact ⟨x, List.mem_append_left _ hx, e⟩
    · rintro ⟨x, hx, e⟩
      rcases List.mem_append.1 hx with hx | hx
      · exact ⟨x, hx, e⟩
      · rw [List.mem_singleton] at hx; subst hx
        have : t ∈ A.map (·.1) := by rw [← e, nth_eq hr]; exact List.mem_map_of_mem (List.getElem_mem _)
        exact (h.keys t).1 this
  · rw [plc_snoc]
    obtain ⟨i, hi, rfl⟩ := List.mem_iff_getElem.1 hp
    rw [List.length_set] at hi
    rw [List.getElem_set]
    by_cases e : r = i
    · rw [if_pos e, if_pos rfl]
      rw [← h.at_ (nth A r) (by rw [nth_eq hr]; exact List.getElem_mem _)]
    · rw [if_neg e]
      have hne : (nth A r).1 ≠ A[i].1 := by
        rw [nth_eq hr]
        intro he
        exact nodup_ne h.nodup (i := r) (j := i) (by simpa using hr) (by simpa using hi) e (by simpa using he)
      rw [if_neg hne]; exact h.at_ _ (List.getElem_mem _)
/-- the postings of a graph's words -/
def makeP (W : List (List ByteArray)) : List Po := (putAll sLess W.flatten).map fun s => (s, plc (occK W W.length) s)
theorem Gath.sorted {W : List (List ByteArray)} {A : List Po} (h : Gath (occK W W.length) A) : sortT (A.map (·.1)) = putAll sLess W.flatten :=
  sortT_put h.nodup fun s => by rw [h.keys s, occK_mem]
theorem Gath.find {O : List Occ} {A : List Po} (h : Gath O A) {s : ByteArray} (hs : s ∈ A.map (·.1)) : ∃ r, r < A.length ∧ (nth A r).1 = s ∧ (nth A r).2 = plc O s := by
  obtain ⟨p, hp, rfl⟩ := List.mem_map.1 hs
  obtain ⟨r, hr, rfl⟩ := List.mem_iff_getElem.1 hp
  refine ⟨r, hr, by rw [nth_eq hr], ?_⟩
  rw [nth_eq hr]; exact h.at_ _ hp
theorem nodup_len {α : Type} [DecidableEq α] : ∀ {l m : List α}, l.Nodup → (∀ x ∈ l, x ∈ m) → l.length ≤ m.length
  | [], _, _, _ => by simp
  | a :: l, m, h, hm => by
    obtain ⟨h1, h2⟩ := List.nodup_cons.1 h
    have ha := hm a (by simp)
    have ih := nodup_len (m := m.erase a) h2 fun x hx => (List.mem_erase_of_ne (fun e => h1 (by rw [← e]; exact hx))).2 (hm x (by simp [hx]))
    rw [List.length_erase_of_mem ha] at ih
    have := List.length_pos_of_mem ha
    rw [List.length_cons]; omega
theorem Gath.len {O : List Occ} {A : List Po} (h : Gath O A) : A.length ≤ O.length := by
  have h1 := nodup_len (m := O.map (·.2)) h.nodup fun s hs => by
    obtain ⟨x, hx, e⟩ := (h.keys s).1 hs
    exact e ▸ List.mem_map_of_mem hx
  simpa using h1
end Go.Proofs.YthlmcfbadhidbaaGreat
/- The next level's places, gone through in their order, each once. -/
namespace Go.Proofs.YthlmcfbadhidbaaGreat
open Go Go.RowKit
/-- one place that a way leads to -/
def ah1 (X : List Int) (l : List Int) (w : Int) : List Int := if nth X w.toNat < 0 ∧ w ∉ l then l ++ [w] else l
def ahR (X : List Int) (m : List Int) (l : List Int) : List Int := m.foldl (ah1 X) l
def ahF (nx : Nat → List Int) (X : List Int) (F : List Int) (l : List Int) : List Int := F.foldl (fun l v => ahR X (nx v.toNat) l) l
theorem ahR_take {X m l : List Int} {j : Nat} (h : j < m.length) : ahR X (m.take (j + 1)) l = ah1 X (ahR X (m.take j) l) (nth m j) := by
  unfold ahR; rw [take_succ_nth m j h, List.foldl_append]; rfl
theorem ahF_take {nx : Nat → List Int} {X F l : List Int} {j : Nat} (h : j < F.length) : ahF nx X (F.take (j + 1)) l = ahR X (nx (nth F j).toNat) (ahF nx X (F.take j) l) := by
  unfold ahF; rw [take_succ_nth F j h, List.foldl_append]; rfl
theorem ah1_mem {X l : List Int} {w x : Int} : x ∈ ah1 X l w ↔ x ∈ l ∨ (x = w ∧ nth X w.toNat < 0) := by
  unfold ah1
  split
  · rename_i h
    rw [List.mem_append, List.mem_singleton]
    constructor
    · rintro (h1 | h1)
      · exact .inl h1
      · exact .inr ⟨h1, h.1⟩
    · rintro (h1 | h1)
      · exact .inl h1
      · exact .inr h1.1
  · rename_i h
    constructor
    · exact .inl
    · rintro (h1 | ⟨h1, h2⟩)
      · exact h1
      · subst h1
        by_cases h3 : x ∈ l
        · exact h3
        · exact absurd ⟨h2, h3⟩ h
theorem ahR_mem {X : List Int} {x : Int} : ∀ {m l : List Int}, x ∈ ahR X m l ↔ x ∈ l ∨ (x ∈ m ∧ nth X x.toNat < 0)
  | [], l => by simp [ahR]
  | a :: m, l => by
    have := ahR_mem (X := X) (x := x) (m := m) (l := ah1 X l a)
    unfold ahR at *
    rw [List.foldl_cons, this, ah1_mem, List.mem_cons]
    constructor
    · rintro ((h | ⟨rfl, h⟩) | h)
      · exact .inl h
      · exact .inr ⟨.inl rfl, h⟩
      · exact .inr ⟨.inr h.1, h.2⟩
    · rintro (h | ⟨rfl | h, h2⟩)
      · exact .inl (.inl h)
      · exact .inl (.inr ⟨rfl, h2⟩)
      · exact .inr ⟨h, h2⟩
theorem ahF_mem {nx : Nat → List Int} {X : List Int} {x : Int} : ∀ {F l : List Int}, x ∈ ahF nx X F l ↔ x ∈ l ∨ (∃ v ∈ F, x ∈ nx v.toNat ∧ nth X x.toNat < 0)
  | [], l => by simp [ahF]
  | a :: F, l => by
    have := ahF_mem (nx := nx) (X := X) (x := x) (F := F) (l := ahR X (nx a.toNat) l)
    unfold ahF at *
    rw [List.foldl_cons, this, ahR_mem]
    constructor
    · rintro ((h | h) | ⟨v, h1, h2⟩)
      · exact .inl h
      · exact .inr ⟨a, List.mem_cons_self .., h⟩
      · exact .inr ⟨v, List.mem_cons_of_mem _ h1, h2⟩
    · rintro (h | ⟨v, h1, h2⟩)
      · exact .inl (.inl h)
      · rcases List.mem_cons.1 h1 with rfl | h1
        · exact .inl (.inr h2)
        · exact .inr ⟨v, h1, h2⟩
theorem ah1_nodup {X l : List Int} {w : Int} (h : l.Nodup) : (ah1 X l w).Nodup := by
  unfold ah1
  split
  · rename_i h1
    rw [List.nodup_append]
    exact ⟨h, by simp, fun a ha b hb e => by rw [List.mem_singleton] at hb; subst hb; subst e; exact h1.2 ha⟩
  · exact h
theorem ahR_nodup {X : List Int} : ∀ {m l : List Int}, l.Nodup → (ahR X m l).Nodup
  | [], _, h => h
  | a :: m, l, h => by
    have := ahR_nodup (X := X) (m := m) (ah1_nodup (X := X) (w := a) h)
    unfold ahR at *
    exact this
theorem ahF_nodup {nx : Nat → List Int} {X : List Int} : ∀ {F l : List Int}, l.Nodup → (ahF nx X F l).Nodup
  | [], _, h => h
  | a :: F, l, h => by
    have := ahF_nodup (nx := nx) (X := X) (F := F) (ahR_nodup (X := X) (m := nx a.toNat) h)
    unfold ahF at *
    exact this
/-- numbers of places, each once: no more than places -/
theorem nodup_small {l : List Int} {n : Nat} (h : l.Nodup) (hb : ∀ x ∈ l, 0 ≤ x ∧ x < n) : l.length ≤ n := by
  have := nodup_len (m := (List.range n).map fun v : Nat => (v : Int)) h fun x hx => by
    obtain ⟨h1, h2⟩ := hb x hx
    rw [List.mem_map]
    exact ⟨x.toNat, List.mem_range.2 (by omega), by omega⟩
  simpa using this
/-- one level's places -/
def IsFront (f : Nat → Int) (n : Nat) (k : Int) (F : List Int) : Prop := F.Nodup ∧ ∀ x, x ∈ F ↔ 0 ≤ x ∧ x < n ∧ f x.toNat = k
/-- rows lead to places -/
def InN (nx : Nat → List Int) (n : Nat) : Prop := ∀ u, u < n → ∀ x ∈ nx u, 0 ≤ x ∧ x < n
theorem front_next {nx : Nat → List Int} {n s : Nat} (hs : s < n) (hin : InN nx n) {k : Nat} {F X : List Int} (hF : IsFront (lev nx n s) n k F)
    (hX : ∀ v, v < n → (nth X v < 0 ↔ ¬ (0 ≤ lev nx n s v ∧ lev nx n s v ≤ k))) : IsFront (lev nx n s) n (k + 1 : Nat) (ahF nx X F []) := by
  refine ⟨ahF_nodup List.nodup_nil, fun x => ?_⟩
  rw [ahF_mem]
  have L := lev_ok nx n s hs
  constructor
  · rintro (h | ⟨v, h1, h2, h3⟩)
    · cases h
    · obtain ⟨g1, g2, g3⟩ := (hF.2 v).1 h1
      obtain ⟨g4, g5⟩ := hin v.toNat (by omega) x h2
      have g6 := (hX x.toNat (by omega)).1 h3
      have g7 := L.next v.toNat x.toNat (by omega) (by omega) (by rw [Int.toNat_of_nonneg g4]; exact h2) (by omega)
      exact ⟨g4, g5, by omega⟩
  · rintro ⟨h1, h2, h3⟩
    obtain ⟨u, hu, g1, g2⟩ := L.pred x.toNat (by omega) (by omega)
    rw [Int.toNat_of_nonneg h1] at g2
    refine .inr ⟨(u : Int), (hF.2 u).2 ⟨by omega, by omega, by rw [Int.toNat_natCast]; omega⟩, by rw [Int.toNat_natCast]; exact g2, (hX x.toNat (by omega)).2 (by omega)⟩
theorem front_0 {nx : Nat → List Int} {n s : Nat} (hs : s < n) : IsFront (lev nx n s) n 0 [(s : Int)] := by
  refine ⟨by simp, fun x => ?_⟩
  rw [List.mem_singleton]
  have L := lev_ok nx n s hs
  constructor
  · rintro rfl
    exact ⟨by omega, by omega, by rw [Int.toNat_natCast]; exact (L.zero s hs).2 rfl⟩
  · rintro ⟨h1, h2, h3⟩
    have := (L.zero x.toNat (by omega)).1 h3
    omega
/-- levels up to k, as a row -/
def cutL (f : Nat → Int) (n : Nat) (k : Int) : List Int := (List.range n).map fun v => cut f k v
theorem cutL_len (f : Nat → Int) (n : Nat) (k : Int) : (cutL f n k).length = n := by simp [cutL]
theorem cutL_nth {f : Nat → Int} {n : Nat} {k : Int} {v : Nat} (hv : v < n) : nth (cutL f n k) v = cut f k v := by
  rw [nth_eq (by rw [cutL_len]; exact hv)]; simp [cutL]
/-- the level's places set -/
def tkR (c : Int) (m : List Int) (X : List Int) : List Int := m.foldl (fun X w => X.set w.toNat c) X
theorem tkR_take {c : Int} {X m : List Int} {j : Nat} (h : j < m.length) : tkR c (m.take (j + 1)) X = (tkR c (m.take j) X).set (nth m j).toNat c := by
  unfold tkR; rw [take_succ_nth m j h, List.foldl_append]; rfl
theorem tkR_len {c : Int} : ∀ {m X : List Int}, (tkR c m X).length = X.length
  | [], X => rfl
  | a :: m, X => by
    have := tkR_len (c := c) (m := m) (X := X.set a.toNat c)
    unfold tkR at *
    rw [List.foldl_cons, this, List.length_set]
theorem tkR_nth {c : Int} {v : Nat} : ∀ {m X : List Int}, (∀ x ∈ m, 0 ≤ x ∧ x < X.length) → nth (tkR c m X) v = if (v : Int) ∈ m then c else nth X v
  | [], X, _ => by simp [tkR]
  | a :: m, X, h => by
    have h0 := h a (List.mem_cons_self ..)
    have := tkR_nth (c := c) (v := v) (m := m) (X := X.set a.toNat c) (fun x hx => by rw [List.length_set]; exact h x (List.mem_cons_of_mem _ hx))
    unfold tkR at *
    rw [List.foldl_cons, this, nth_set _ _ _ _ (by omega)]
    simp only [List.mem_cons]
    by_cases h1 : (v : Int) ∈ m
    · simp [h1]
    · by_cases h2 : v = a.toNat
      · rw [if_neg h1, if_pos h2, if_pos (.inl (by omega))]
      · rw [if_neg h1, if_neg h2, if_neg]
        rintro (h3 | h3)
        · omega
        · exact h1 h3
theorem take_cut {f : Nat → Int} {n : Nat} {k : Nat} {m : List Int} (hm : IsFront f n (k + 1 : Nat) m) : tkR ((k : Int) + 1) m (cutL f n k) = cutL f n (k + 1 : Nat) := by
  apply List.ext_getElem
  · rw [tkR_len, cutL_len, cutL_len]
  · intro v h1 h2
    have hv : v < n := by rw [cutL_len] at h2; exact h2
    rw [← nth_eq h1, ← nth_eq h2, cutL_nth hv, tkR_nth (fun x hx => by have := (hm.2 x).1 hx; rw [cutL_len]; omega), cutL_nth hv]
    have h3 := hm.2 (v : Int)
    rw [Int.toNat_natCast] at h3
    unfold cut
    by_cases h4 : (v : Int) ∈ m
    · have := h3.1 h4
      rw [if_pos h4, if_pos (by omega)]; omega
    · have : ¬ f v = ((k + 1 : Nat) : Int) := fun e => h4 (h3.2 ⟨by omega, by omega, e⟩)
      rw [if_neg h4]
      by_cases h5 : 0 ≤ f v ∧ f v ≤ k
      · rw [if_pos h5, if_pos (by omega)]
      · rw [if_neg h5, if_neg (by omega)]
theorem cut_0 {nx : Nat → List Int} {n s : Nat} (hs : s < n) : cutL (lev nx n s) n 0 = bf0 n s := by
  apply List.ext_getElem
  · rw [cutL_len]; simp [bf0]
  · intro v h1 h2
    have hv : v < n := by rw [cutL_len] at h1; exact h1
    rw [← nth_eq h1, ← nth_eq h2, cutL_nth hv, bf0_nth hs v hv]
    have L := (lev_ok nx n s hs).zero v hv
    unfold cut
    by_cases h : v = s
    · rw [if_pos h, if_pos (by have := L.2 h; omega)]; exact L.2 h
    · have : ¬ lev nx n s v = 0 := fun e => h (L.1 e)
      rw [if_neg h, if_neg (by omega)]
theorem cut_lt {f : Nat → Int} {k : Int} {v : Nat} : cut f k v < 0 ↔ ¬ (0 ≤ f v ∧ f v ≤ k) := by
  have := cut_ge (f := f) (k := k) (v := v); omega
end Go.Proofs.YthlmcfbadhidbaaGreat
/- The shortest walk over places that both searches have; how both searches go on. -/
namespace Go.Proofs.YthlmcfbadhidbaaGreat
open Go Go.RowKit
def best1 (X Y : List Int) (s : Int × Bool) (v : Nat) : Int × Bool := if 0 ≤ nth X v ∧ 0 ≤ nth Y v ∧ (s.2 = false ∨ nth X v + nth Y v < s.1) then (nth X v + nth Y v, true) else s
def bestR (X Y : List Int) (k : Nat) : Int × Bool := (List.range k).foldl (best1 X Y) (0, false)
theorem bestR_succ (X Y : List Int) (k : Nat) : bestR X Y (k + 1) = best1 X Y (bestR X Y k) k := by
  unfold bestR; rw [List.range_succ, List.foldl_append]; rfl
theorem bestR_is (X Y : List Int) : ∀ k, ((bestR X Y k).2 = false → (bestR X Y k).1 = 0 ∧ ∀ v, v < k → ¬ (0 ≤ nth X v ∧ 0 ≤ nth Y v)) ∧
    ((bestR X Y k).2 = true → (∃ v, v < k ∧ 0 ≤ nth X v ∧ 0 ≤ nth Y v ∧ (bestR X Y k).1 = nth X v + nth Y v) ∧ ∀ v, v < k → 0 ≤ nth X v → 0 ≤ nth Y v → (bestR X Y k).1 ≤ nth X v + nth Y v)
  | 0 => ⟨fun _ => ⟨rfl, fun v hv => by omega⟩, fun h => by cases h⟩
  | k + 1 => by
    obtain ⟨h1, h2⟩ := bestR_is X Y k
    rw [bestR_succ]
    generalize bestR X Y k = s at *
    obtain ⟨m, b⟩ := s
    unfold best1
    by_cases hc : 0 ≤ nth X k ∧ 0 ≤ nth Y k ∧ (b = false ∨ nth X k + nth Y k < m)
    · rw [if_pos hc]
      refine ⟨fun h => by (simp at h), fun _ => ⟨⟨k, by omega, hc.1, hc.2.1, rfl⟩, fun v hv g1 g2 => ?_⟩⟩
      by_cases hv' : v = k
      · subst hv'; exact Int.le_refl _
      · cases b with
        | false => exact absurd ⟨g1, g2⟩ ((h1 rfl).2 v (by omega))
        | true =>
          have := (h2 rfl).2 v (by omega) g1 g2
          rcases hc.2.2 with h | h
          · cases h
          · simp only at this ⊢; omega
    · rw [if_neg hc]
      cases b with
      | false =>
        refine ⟨fun _ => ⟨(h1 rfl).1, fun v hv g => ?_⟩, fun h => by cases h⟩
        by_cases hv' : v = k
        · subst hv'; exact hc ⟨g.1, g.2, .inl rfl⟩
        · exact (h1 rfl).2 v (by omega) g
      | true =>
        refine ⟨fun h => (by cases h), fun _ => ⟨?_, fun v hv g1 g2 => ?_⟩⟩
        · obtain ⟨v, hv, g⟩ := (h2 rfl).1
          exact ⟨v, by omega, g⟩
        · by_cases hv' : v = k
          · subst hv'
            apply Classical.byContradiction
            intro hlt
            exact hc ⟨g1, g2, .inr (by simp only at hlt ⊢; omega)⟩
          · exact (h2 rfl).2 v (by omega) g1 g2
section
variable {nx nb : Nat → List Int} {n s t : Nat} (h : Rev nx nb n) (hs : s < n) (ht : t < n)
include h hs ht in
/-- what both searches have when they have taken k steps -/
theorem best_lev {k : Nat} (_ : 0 ≤ lev nx n s t → 2 * (k:Int) ≤ lev nx n s t + 1) :
    (meetB n (lev nx n s) (lev nb n t) k = true → bestR (cutL (lev nx n s) n k) (cutL (lev nb n t) n k) n = (lev nx n s t, true)) ∧
    (meetB n (lev nx n s) (lev nb n t) k = false → bestR (cutL (lev nx n s) n k) (cutL (lev nb n t) n k) n = (0, false)) := by
  obtain ⟨h1, h2⟩ := bestR_is (cutL (lev nx n s) n k) (cutL (lev nb n t) n k) n
  generalize hb : bestR (cutL (lev nx n s) n k) (cutL (lev nb n t) n k) n = b at *
  obtain ⟨m, o⟩ := b
  constructor
  · intro hm
    obtain ⟨g1, g2⟩ := (meet_lev h hs ht).1 hm
    have hex : ∃ v, v < n ∧ lev nx n s v ≤ k ∧ 0 ≤ lev nx n s v ∧ lev nb n t v ≤ k ∧ 0 ≤ lev nb n t v ∧ lev nx n s v + lev nb n t v = lev nx n s t := by
      by_cases h3 : lev nx n s t ≤ k
      · obtain ⟨v, hv, e1, e2⟩ := lev_mid h hs ht (j := (lev nx n s t).toNat) g1 (by omega)
        exact ⟨v, hv, by omega, by omega, by omega, by omega, by omega⟩
      · obtain ⟨v, hv, e1, e2⟩ := lev_mid h hs ht (j := k) g1 (by omega)
        exact ⟨v, hv, by omega, by omega, by omega, by omega, by omega⟩
    obtain ⟨v, hv, e1, e2, e3, e4, e5⟩ := hex
    have c1 : nth (cutL (lev nx n s) n k) v = lev nx n s v := by rw [cutL_nth hv]; unfold cut; rw [if_pos ⟨e2, e1⟩]
    have c2 : nth (cutL (lev nb n t) n k) v = lev nb n t v := by rw [cutL_nth hv]; unfold cut; rw [if_pos ⟨e4, e3⟩]
    cases o with
    | false => exact absurd ⟨by rw [c1]; exact e2, by rw [c2]; exact e4⟩ ((h1 rfl).2 v hv)
    | true =>
      obtain ⟨⟨u, hu, f1, f2, f3⟩, f4⟩ := h2 rfl
      have f5 := f4 v hv (by rw [c1]; exact e2) (by rw [c2]; exact e4)
      rw [c1, c2] at f5
      rw [cutL_nth hu] at f1 f3
      rw [cutL_nth hu] at f2 f3
      have f6 := cut_eq f1
      have f7 := cut_eq f2
      have f8 := lev_over h hs ht hu (by rw [← f6]; exact f1) (by rw [← f7]; exact f2)
      simp only at f3 f5
      have : m = lev nx n s t := by omega
      rw [this]
  · intro hm
    cases o with
    | false => rw [show m = 0 from (h1 rfl).1]
    | true =>
      obtain ⟨⟨u, hu, f1, f2, _⟩, _⟩ := h2 rfl
      rw [cutL_nth hu] at f1
      rw [cutL_nth hu] at f2
      have f3 := cut_ge.1 f1
      have f4 := cut_ge.1 f2
      rw [meetB_iff.2 ⟨u, hu, f3.1, f3.2, f4.1, f4.2⟩] at hm
      cases hm
theorem front_has {f : Nat → Int} {k : Int} {F : List Int} (hF : IsFront f n k F) : (hasL n f k = true ↔ 0 < F.length) := by
  rw [hasL_iff]
  constructor
  · rintro ⟨v, hv, e⟩
    exact List.length_pos_of_mem ((hF.2 (v : Int)).2 ⟨by omega, by omega, by rw [Int.toNat_natCast]; exact e⟩)
  · intro h
    obtain ⟨x, hx⟩ := List.exists_mem_of_length_pos h
    obtain ⟨h1, h2, h3⟩ := (hF.2 x).1 hx
    exact ⟨x.toNat, by omega, h3⟩
end
/-- how far, and whether -/
def distN (d : Int) : Int := if 0 ≤ d then d else 0
def distB (d : Int) : Bool := decide (0 ≤ d)
theorem stepsK_meet {n m k : Nat} {f g : Nat → Int} (h : meetB n f g k = true) : stepsK n f g (m + 1) k = k := by unfold stepsK; rw [if_pos h]
theorem stepsK_end {n m k : Nat} {f g : Nat → Int} (h : meetB n f g k = false) (h2 : ¬ (hasL n f (k + 1) = true ∧ hasL n g (k + 1) = true)) : stepsK n f g (m + 1) k = k := by
  unfold stepsK; rw [if_neg (by rw [h]; simp), if_neg h2]
theorem stepsK_go {n m k : Nat} {f g : Nat → Int} (h : meetB n f g k = false) (h2 : hasL n f (k + 1) = true ∧ hasL n g (k + 1) = true) : stepsK n f g (m + 1) k = stepsK n f g m (k + 1) := by
  conv => lhs; unfold stepsK
  rw [if_neg (by rw [h]; simp), if_pos h2]
end Go.Proofs.YthlmcfbadhidbaaGreat
/- The path from place to place, in plain words. -/
namespace Go.Proofs.YthlmcfbadhidbaaGreat
open Go Go.RowKit
section
variable {nx nb : Nat → List Int} {n t : Nat} (h : Rev nx nb n) (ht : t < n) (hin : InN nx n)
include h ht hin in
/-- a place that is a step nearer is there -/
theorem stepL_is {u k : Nat} (hu : u < n) (hk : lev nb n t u = (k + 1 : Nat)) : ∃ x, (nx u).find? (fun x => lev nb n t x.toNat == lev nb n t u - 1) = some x ∧ x ∈ nx u ∧ 0 ≤ x ∧ x < n ∧ stepL nx (lev nb n t) u = x.toNat ∧ lev nb n t x.toNat = k := by
  obtain ⟨y, hy, h1, h2⟩ := (lev_ok nb n t ht).pred u hu (by omega)
  have h3 := (h u y hu hy).2 h2
  cases hf : (nx u).find? (fun x => lev nb n t x.toNat == lev nb n t u - 1) with
  | none =>
    have := List.find?_eq_none.1 hf (y : Int) h3
    rw [Int.toNat_natCast] at this
    exact absurd (by simpa using h1) this
  | some x =>
    have hx := List.mem_of_find?_eq_some hf
    have hp := List.find?_some hf
    have hb := hin u hu x hx
    refine ⟨x, rfl, hx, hb.1, hb.2, ?_, ?_⟩
    · unfold stepL; rw [hf]; rfl
    · have : lev nb n t x.toNat = lev nb n t u - 1 := by simpa using hp
      omega
include h ht hin in
theorem pathL_at : ∀ (k u : Nat), u < n → lev nb n t u = k → ∀ i, i ≤ k → nth (pathL nx (lev nb n t) k u) i < n ∧ lev nb n t (nth (pathL nx (lev nb n t) k u) i) = ((k - i : Nat) : Int) ∧
    (pathL nx (lev nb n t) k u).drop i = pathL nx (lev nb n t) (k - i) (nth (pathL nx (lev nb n t) k u) i)
  | 0, u, hu, hk, i, hi => by
    obtain rfl : i = 0 := by omega
    exact ⟨hu, hk, rfl⟩
  | k + 1, u, hu, hk, 0, _ => ⟨hu, hk, rfl⟩
  | k + 1, u, hu, hk, i + 1, hi => by
    obtain ⟨x, _, _, h2, h3, h4, h5⟩ := stepL_is h ht hin hu hk
    have := pathL_at k x.toNat (by omega) h5 i (by omega)
    rw [pathL, h4]
    rw [show k + 1 - (i + 1) = k - i by omega]
    exact this
include h ht hin in
theorem pathL_next {k u : Nat} (hu : u < n) (hk : lev nb n t u = k) {i : Nat} (hi : i < k) : ((nth (pathL nx (lev nb n t) k u) (i + 1) : Nat) : Int) ∈ nx (nth (pathL nx (lev nb n t) k u) i) ∧
    nth (pathL nx (lev nb n t) k u) (i + 1) = stepL nx (lev nb n t) (nth (pathL nx (lev nb n t) k u) i) := by
  obtain ⟨h1, h2, h3⟩ := pathL_at h ht hin k u hu hk i (by omega)
  obtain ⟨j, hj⟩ : ∃ j, k - i = j + 1 := ⟨k - i - 1, by omega⟩
  rw [hj] at h2 h3
  obtain ⟨x, _, g1, g2, g3, g4, g5⟩ := stepL_is h ht hin h1 h2
  have e : nth (pathL nx (lev nb n t) k u) (i + 1) = stepL nx (lev nb n t) (nth (pathL nx (lev nb n t) k u) i) := by
    have e1 : nth ((pathL nx (lev nb n t) k u).drop i) 1 = nth (pathL nx (lev nb n t) k u) (i + 1) := by
      unfold nth; rw [List.getD_eq_getElem?_getD, List.getD_eq_getElem?_getD, List.getElem?_drop]
    rw [← e1, h3]
    cases j with
    | zero => rfl
    | succ j => rfl
  refine ⟨?_, e⟩
  rw [e, g4, Int.toNat_of_nonneg g2]
  exact g1
include h ht hin in
theorem pathL_last {k u : Nat} (hu : u < n) (hk : lev nb n t u = k) : nth (pathL nx (lev nb n t) k u) k = t := by
  obtain ⟨h1, h2, _⟩ := pathL_at h ht hin k u hu hk k (Nat.le_refl _)
  exact ((lev_ok nb n t ht).zero _ h1).1 (by rw [h2]; simp)
theorem pathL_first (nx : Nat → List Int) (g : Nat → Int) (k u : Nat) : nth (pathL nx g k u) 0 = u := by cases k <;> rfl
include h ht hin in
theorem pathL_nodup {k u : Nat} (hu : u < n) (hk : lev nb n t u = k) : (pathL nx (lev nb n t) k u).Nodup := by
  rw [List.nodup_iff_pairwise_ne, List.pairwise_iff_getElem]
  intro i j hi hj hij e
  rw [pathL_len] at hi hj
  have h1 := (pathL_at h ht hin k u hu hk i (by omega)).2.1
  have h2 := (pathL_at h ht hin k u hu hk j (by omega)).2.1
  rw [nth_eq (by rw [pathL_len]; omega)] at h1
  rw [nth_eq (by rw [pathL_len]; omega)] at h2
  rw [e] at h1
  omega
end
/-- what stands ahead of the first one that is found is less, and is not it -/
theorem find_less {l : List Int} (hl : Rises ltI l) {p : Int → Bool} {x y : Int} (hf : l.find? p = some x) (hy : y ∈ l) (hlt : y < x) : p y = false := by
  obtain ⟨hx, a, b, rfl, ha⟩ := List.find?_eq_some_iff_append.1 hf
  rcases List.mem_append.1 hy with h | h
  · have := ha y h; simpa using this
  · rcases List.mem_cons.1 h with rfl | h
    · omega
    · have h1 := (List.pairwise_append.1 hl).2.1
      have h2 := (List.pairwise_cons.1 h1).1 y h
      simp [ltI] at h2; omega
end Go.Proofs.YthlmcfbadhidbaaGreat
/- Rows made of a graph are right, and tell the graph's edges; rows that are right tell the same, either way. No program in sight. -/
namespace Go.Proofs.YthlmcfbadhidbaaGreat
open Go Go.RowKit
theorem nodup_le {α : Type} [DecidableEq α] : ∀ {l m : List α}, l.Nodup → (∀ x ∈ l, x ∈ m) → l.length ≤ m.length
  | [], _, _, _ => by simp
  | a :: l, m, h, hm => by
    obtain ⟨h1, h2⟩ := List.nodup_cons.1 h
    have ha := hm a (by simp)
    have ih := nodup_le (m := m.erase a) h2 fun x hx => (List.mem_erase_of_ne (fun e => h1 (by rw [← e]; exact hx))).2 (hm x (by simp [hx]))
    rw [List.length_erase_of_mem ha] at ih
    have := List.length_pos_of_mem ha
    rw [List.length_cons]; omega
theorem rises_pick {α : Type} {lt : α → α → Bool} {l m : List α} (h : Rises lt l) (hs : m.Sublist l) : Rises lt m := List.Pairwise.sublist hs h
section
variable {n : Nat} {A : List (Int × Int)}
/-- the k-th offset is the length of what comes ahead -/
theorem off_at (hb : ∀ x ∈ A, 0 ≤ x.1 ∧ x.1 < n) {k : Nat} (hk : k < n + 1) : (nth (offL n A) k).toNat = (placesK A k).length := by
  rw [offL_nth A hk, placesK_len A (fun x hx => (hb x hx).1) k]; omega
theorem to_split (h : Rises lessE A) (hb : ∀ x ∈ A, 0 ≤ x.1 ∧ x.1 < n) {k : Nat} (hk : k < n) : ∃ t, toL A = (placesK A k).map (·.2) ++ ((placeE A k).map (·.2) ++ t) := by
  have h1 : placesK A n = A := places_all h hb
  have h2 : ∀ d j, ∃ t, placesK A (j + d) = placesK A j ++ t := by
    intro d
    induction d with
    | zero => intro j; exact ⟨[], by simp⟩
    | succ d ih =>
      intro j
      obtain ⟨t, ht⟩ := ih j
      exact ⟨t ++ placeE A (j + d), by rw [← Nat.add_assoc, placesK_step, ht, List.append_assoc]⟩
  obtain ⟨t, ht⟩ := h2 (n - (k + 1)) (k + 1)
  rw [show k + 1 + (n - (k + 1)) = n by omega, h1] at ht
  refine ⟨t.map (·.2), ?_⟩
  unfold toL
  conv => lhs; rw [ht, placesK_step]
  simp
theorem row_of (h : Rises lessE A) (hb : ∀ x ∈ A, 0 ≤ x.1 ∧ x.1 < n) {k : Nat} (hk : k < n) : rowL (offL n A) (toL A) k = (placeE A k).map (·.2) := by
  obtain ⟨t, ht⟩ := to_split h hb hk
  unfold rowL
  rw [off_at hb (by omega), off_at hb (by omega), placesK_step, List.length_append, ht]
  rw [List.drop_left' (by simp), Nat.add_sub_cancel_left, List.take_left' (by simp)]
theorem rowX_of (h : Rises lessE A) (hb : ∀ x ∈ A, 0 ≤ x.1 ∧ x.1 < n) {k : Nat} (hk : k < n) : rowX (offL n A) (toL A) k = placeE A k := by
  unfold rowX
  rw [row_of h hb hk, List.map_map]
  conv => rhs; rw [← List.map_id (placeE A k)]
  refine List.map_congr_left fun x hx => ?_
  unfold placeE at hx
  rw [List.mem_filter, decide_eq_true_eq] at hx
  simp only [Function.comp, id]
  rw [← hx.2]
theorem pairs_of (h : Rises lessE A) (hb : ∀ x ∈ A, 0 ≤ x.1 ∧ x.1 < n) : pairs (offL n A) (toL A) = A := by
  have : ∀ k, k ≤ n → pairsK (offL n A) (toL A) k = placesK A k := by
    intro k
    induction k with
    | zero => intro _; rfl
    | succ k ih => intro hk; rw [pairsK_step, placesK_step, ih (by omega), rowX_of h hb (by omega)]
  unfold pairs
  rw [offL_len, Nat.add_sub_cancel, this n (Nat.le_refl _), places_all h hb]
theorem half_of (h : Rises lessE A) (hb : ∀ x ∈ A, 0 ≤ x.1 ∧ x.1 < n ∧ 0 ≤ x.2 ∧ x.2 < n) (h1 : 1 ≤ n) (h2 : n ≤ 200) (h3 : A.length ≤ 2000) : halfB (offL n A) (toL A) = true := by
  have hb' : ∀ x ∈ A, 0 ≤ x.1 ∧ x.1 < n := fun x hx => ⟨(hb x hx).1, (hb x hx).2.1⟩
  have e0 : nth (offL n A) 0 = 0 := by
    rw [offL_nth A (by omega), List.countP_eq_zero.2 fun x hx => by have := (hb x hx).1; simp; omega]; rfl
  have en : nth (offL n A) n = A.length := by
    rw [offL_nth A (by omega), List.countP_eq_length.2 fun x hx => by have := (hb x hx).2.1; simp; omega]
  have es : sortB (offL n A) = true := by
    unfold sortB
    rw [List.all_eq_true]
    intro v hv
    rw [List.mem_range, offL_len] at hv
    rw [offL_nth A (by omega), offL_nth A (by omega), count_step]
    simp; omega
  unfold halfB offB
  rw [offL_len, e0, Nat.add_sub_cancel, en, es]
  have : (toL A).length = A.length := by simp [toL]
  rw [this]
  rw [decide_eq_true (by omega : 2 ≤ n + 1), decide_eq_true (by omega : n + 1 ≤ 201), decide_eq_true h3]
  simp only [decide_true, Bool.true_and, List.all_eq_true]
  intro v hv
  rw [List.mem_range] at hv
  rw [okRow_iff, row_of h hb' hv]
  refine ⟨fun x hx => ?_, ?_⟩
  · obtain ⟨y, hy, rfl⟩ := List.mem_map.1 hx
    unfold placeE at hy
    exact (hb y (List.mem_filter.1 hy).1).2.2
  · rw [Rises, List.pairwise_map]
    refine (h.sublist (List.filter_sublist (p := fun x : Int × Int => decide (x.1 = (v:Int))))).imp_of_mem fun {a b} ha hb hab => ?_
    have ha := List.mem_filter.1 ha
    have hb := List.mem_filter.1 hb
    rw [decide_eq_true_eq] at ha hb
    rw [lessE_iff] at hab
    simp only [ltI, decide_eq_true_eq]
    omega
end
theorem mem_row_of {n : Nat} {A : List (Int × Int)} (h : Rises lessE A) (hb : ∀ x ∈ A, 0 ≤ x.1 ∧ x.1 < n) {k : Nat} (hk : k < n) {y : Int} : y ∈ rowL (offL n A) (toL A) k ↔ ((k:Int), y) ∈ A := by
  rw [row_of h hb hk, List.mem_map]
  unfold placeE
  constructor
  · rintro ⟨x, hx, rfl⟩
    rw [List.mem_filter, decide_eq_true_eq] at hx
    rw [← hx.2]; exact hx.1
  · intro hx; exact ⟨_, List.mem_filter.2 ⟨hx, by simp⟩, rfl⟩
theorem turnE_mem {E : List (Int × Int)} {x : Int × Int} : x ∈ turnE E ↔ swapE x ∈ E := by
  unfold turnE
  rw [putAll_mem stoE, List.mem_map]
  constructor
  · rintro ⟨y, hy, rfl⟩; exact hy
  · intro h; exact ⟨_, h, rfl⟩
theorem turnE_rises (E : List (Int × Int)) : Rises lessE (turnE E) := putAll_rises stoE _
/-- what is made is right -/
theorem check_of {n : Nat} {A : List (Int × Int)} (h : Rises lessE A) (hb : ∀ x ∈ A, 0 ≤ x.1 ∧ x.1 < n ∧ 0 ≤ x.2 ∧ x.2 < n) (h1 : 1 ≤ n) (h2 : n ≤ 200) (h3 : A.length ≤ 2000) :
    checkR (offL n A) (toL A) (offL n (turnE A)) (toL (turnE A)) = true := by
  have hb' : ∀ x ∈ A, 0 ≤ x.1 ∧ x.1 < n := fun x hx => ⟨(hb x hx).1, (hb x hx).2.1⟩
  have hbt : ∀ x ∈ turnE A, 0 ≤ x.1 ∧ x.1 < n ∧ 0 ≤ x.2 ∧ x.2 < n := fun x hx => by
    have := hb _ (turnE_mem.1 hx)
    unfold swapE at this
    simp only at this
    omega
  have hbt' : ∀ x ∈ turnE A, 0 ≤ x.1 ∧ x.1 < n := fun x hx => ⟨(hbt x hx).1, (hbt x hx).2.1⟩
  have hnd : A.Nodup := h.imp fun {a b} hab e => by subst e; rw [lessE_iff] at hab; omega
  have hlen : (turnE A).length = A.length := by
    refine Nat.le_antisymm ?_ ?_
    · have := putAll_len lessE (A.map swapE); rw [List.length_map] at this; exact this
    · have hnt : (turnE A).Nodup := (turnE_rises A).imp fun {a b} hab e => by subst e; rw [lessE_iff] at hab; omega
      have : A.Nodup := hnd
      have h4 := nodup_le (m := (turnE A).map swapE) hnd fun x hx => List.mem_map.2 ⟨swapE x, turnE_mem.2 (by rw [swapE_swapE]; exact hx), swapE_swapE x⟩
      rwa [List.length_map] at h4
  unfold checkR
  rw [half_of h hb h1 h2 h3, half_of (turnE_rises A) hbt h1 h2 (by omega), pairs_of h hb', offL_len, offL_len]
  have e1 : (toL A).length = (toL (turnE A)).length := by simp [toL, hlen]
  rw [decide_eq_true e1]
  simp only [decide_true, Bool.true_and, List.all_eq_true]
  intro x hx
  rw [inB_iff]
  have hx2 := hb x hx
  obtain ⟨u, hu⟩ : ∃ u : Nat, x.2 = (u:Int) := ⟨x.2.toNat, by omega⟩
  rw [hu, Int.toNat_natCast, mem_row_of (turnE_rises A) hbt' (by omega), turnE_mem]
  have : swapE ((u:Int), x.1) = x := by unfold swapE; simp only; rw [← hu]
  rw [this]; exact hx
/-! ### rows that are right tell the same, either way -/
theorem pairs_rises {O T : List Int} (h : halfB O T = true) : ∀ k, k ≤ O.length - 1 → Rises lessE (pairsK O T k)
  | 0, _ => List.Pairwise.nil
  | k + 1, hk => by
    rw [pairsK_step]
    refine List.pairwise_append.2 ⟨pairs_rises h k (by omega), ?_, fun a ha b hb => ?_⟩
    · unfold rowX
      rw [List.pairwise_map]
      refine (row_rises h (by omega)).imp fun {a b} hab => ?_
      rw [lessE_iff]
      simp [ltI] at hab
      right; exact ⟨rfl, hab⟩
    · unfold pairsK rowX at ha
      unfold rowX at hb
      simp only [List.mem_flatMap, List.mem_range, List.mem_map] at ha hb
      obtain ⟨v, h1, y, _, rfl⟩ := ha
      obtain ⟨z, _, rfl⟩ := hb
      rw [lessE_iff]; left; simp only; omega
theorem pairs_count {O T : List Int} (h : halfB O T = true) : (pairs O T).length = T.length := by
  obtain ⟨r1, r2, r3, r4, r5, r6⟩ := offB_parts (halfB_off h)
  have hok := offOk_of (halfB_off h)
  have : ∀ k, k < O.length → (pairsK O T k).length = (nth O k).toNat := by
    intro k
    induction k with
    | zero => intro _; rw [r4]; rfl
    | succ k ih =>
      intro hk
      rw [pairsK_step, List.length_append, ih (by omega)]
      unfold rowX
      rw [List.length_map, rowL_len hok hk]
      have := hok.le k hk
      have := hok.lo k (by omega)
      omega
  unfold pairs
  rw [this _ (by omega), r5]; omega
theorem mem_all {α : Type} [DecidableEq α] {l m : List α} (h : l.Nodup) (hs : ∀ x ∈ l, x ∈ m) (hl : m.length ≤ l.length) {x : α} (hx : x ∈ m) : x ∈ l := by
  by_cases hn : x ∈ l
  · exact hn
  · have h1 := nodup_le (m := m.erase x) h fun y hy => (List.mem_erase_of_ne (fun (e : y = x) => hn (by rw [← e]; exact hy))).2 (hs y hy)
    rw [List.length_erase_of_mem hx] at h1
    have := List.length_pos_of_mem hx
    omega
/-- each pair of the other rows stands in these, turned -/
theorem check_turn {O T R V : List Int} (h : checkR O T R V = true) {x : Int × Int} : x ∈ pairs O T ↔ swapE x ∈ pairs R V := by
  obtain ⟨h1, h2, h3, h4⟩ := checkR_half h
  have hall : ∀ y ∈ pairs O T, swapE y ∈ pairs R V := fun y hy => by
    unfold checkR at h
    simp only [Bool.and_eq_true, List.all_eq_true] at h
    have h5 := h.2 y hy
    rw [inB_iff] at h5
    have hb := pair_bd h3 hy
    exact mem_pairs.2 ⟨y.2.toNat, by omega, by unfold swapE; simp only; omega, h5⟩
  refine ⟨hall x, fun hx => ?_⟩
  have hnd : (pairs O T).Nodup := (pairs_rises h3 _ (Nat.le_refl _)).imp fun {a b} hab e => by subst e; rw [lessE_iff] at hab; omega
  have hnd2 : ((pairs O T).map swapE).Nodup := by
    rw [List.Nodup, List.pairwise_map]
    exact hnd.imp fun {a b} hab e => hab (by have := congrArg swapE e; rwa [swapE_swapE, swapE_swapE] at this)
  have h6 := mem_all hnd2 (fun y hy => by obtain ⟨z, hz, rfl⟩ := List.mem_map.1 hy; exact hall z hz) (by rw [List.length_map, pairs_count h3, pairs_count h4, h2]; exact Nat.le_refl _) hx
  obtain ⟨z, hz, e⟩ := List.mem_map.1 h6
  have : z = x := by have := congrArg swapE e; rwa [swapE_swapE, swapE_swapE] at this
  exact this ▸ hz
theorem row_turn {O T R V : List Int} (h : checkR O T R V = true) {v u : Nat} (hv : v < O.length - 1) (hu : u < O.length - 1) : inB (rowL O T u) v = inB (rowL R V v) u := by
  have h1 := (checkR_half h).1
  rw [Bool.eq_iff_iff, inB_iff, inB_iff]
  have e1 : (v:Int) ∈ rowL O T u ↔ ((u:Int), (v:Int)) ∈ pairs O T := by
    rw [mem_pairs]
    constructor
    · intro h; exact ⟨u, hu, rfl, h⟩
    · rintro ⟨k, _, h2, h3⟩; simp only at h2; have : u = k := by omega
      subst this; exact h3
  have e2 : (u:Int) ∈ rowL R V v ↔ ((v:Int), (u:Int)) ∈ pairs R V := by
    rw [mem_pairs]
    constructor
    · intro h; exact ⟨v, by omega, rfl, h⟩
    · rintro ⟨k, _, h2, h3⟩; simp only at h2; have : v = k := by omega
      subst this; exact h3
  rw [e1, e2, check_turn h]; rfl
end Go.Proofs.YthlmcfbadhidbaaGreat
/- Rows that are right: where places lead to, forth and back. -/
namespace Go.Proofs.YthlmcfbadhidbaaGreat
open Go Go.RowKit
/-- where a place leads to -/
def nxR (back : Bool) (O T R V : List Int) : Nat → List Int := if back = true then rowL R V else rowL O T
theorem row_in {O T : List Int} (h : halfB O T = true) : InN (rowL O T) (O.length - 1) := by
  intro u hu x hx
  unfold halfB at h
  rw [Bool.and_eq_true] at h
  have := List.all_eq_true.1 h.2 u (List.mem_range.2 hu)
  exact (okRow_iff.1 this).1 x hx
theorem nxR_in {O T R V : List Int} (h : checkR O T R V = true) (back : Bool) : InN (nxR back O T R V) (O.length - 1) := by
  obtain ⟨h1, h2, h3, h4⟩ := checkR_half h
  cases back with
  | false => exact row_in h3
  | true => have := row_in h4; rw [← h1] at this; exact this
theorem nxR_rev {O T R V : List Int} (h : checkR O T R V = true) (back : Bool) : Rev (nxR back O T R V) (nxR (!back) O T R V) (O.length - 1) := by
  have key : ∀ u v : Nat, u < O.length - 1 → v < O.length - 1 → ((v : Int) ∈ rowL O T u ↔ (u : Int) ∈ rowL R V v) := fun u v hu hv => by
    have := row_turn h hv hu
    rw [Bool.eq_iff_iff, inB_iff, inB_iff] at this
    exact this
  cases back with
  | false => exact key
  | true => exact fun u v hu hv => (key v u hv hu).symm
/-- all ways, in a direction -/
def edgD (back : Bool) (O T : List Int) : List (Int × Int) := if back = true then (pairs O T).map swapE else pairs O T
theorem edgD_bd {O T : List Int} (h : halfB O T = true) (back : Bool) : ∀ x ∈ edgD back O T, 0 ≤ x.1 ∧ x.1 < ((O.length - 1 : Nat) : Int) ∧ 0 ≤ x.2 ∧ x.2 < ((O.length - 1 : Nat) : Int) := by
  intro x hx
  cases back with
  | false => exact pair_bd h hx
  | true =>
    obtain ⟨y, hy, rfl⟩ := List.mem_map.1 hx
    have := pair_bd h hy
    exact ⟨this.2.2.1, this.2.2.2, this.1, this.2.1⟩
theorem edgD_mem {O T R V : List Int} (h : checkR O T R V = true) (back : Bool) : ∀ u v : Nat, u < O.length - 1 → v < O.length - 1 → (((u : Int), (v : Int)) ∈ edgD back O T ↔ (v : Int) ∈ nxR back O T R V u) := by
  have key : ∀ u v : Nat, u < O.length - 1 → (((u : Int), (v : Int)) ∈ pairs O T ↔ (v : Int) ∈ rowL O T u) := fun u v hu => by
    rw [mem_pairs]
    constructor
    · rintro ⟨k, h1, h2, h3⟩
      have : u = k := by simp only at h2; omega
      subst this; exact h3
    · intro h1; exact ⟨u, hu, rfl, h1⟩
  intro u v hu hv
  cases back with
  | false => exact key u v hu
  | true =>
    have e : ((u : Int), (v : Int)) ∈ edgD true O T ↔ ((v : Int), (u : Int)) ∈ pairs O T := by
      show _ ∈ (pairs O T).map swapE ↔ _
      rw [List.mem_map]
      constructor
      · rintro ⟨y, hy, e⟩
        unfold swapE at e
        injection e with e1 e2
        rw [← e1, ← e2]; exact hy
      · intro h1; exact ⟨_, h1, rfl⟩
    rw [e, key v u hv]
    exact (nxR_rev h true u v hu hv).symm
theorem row_rises8 {O T R V : List Int} (h : checkR O T R V = true) (back : Bool) {u : Nat} (hu : u < O.length - 1) : Rises ltI (nxR back O T R V u) := by
  obtain ⟨h1, h2, h3, h4⟩ := checkR_half h
  cases back with
  | false => exact row_rises h3 hu
  | true => exact row_rises h4 (by omega)
/-- levels, as the chapter says: a row; the error -/
def levC (ck : Bool) (O : List Int) (s : Int) : Int := if ck = true then (if 0 ≤ s ∧ s < (O.length : Int) - 1 then 0 else 1) else 40
def levR (ck back : Bool) (O T R V : List Int) (s : Int) : List Int := if levC ck O s = 0 then (List.range (O.length - 1)).map fun v => lev (nxR back O T R V) (O.length - 1) s.toNat v else []
end Go.Proofs.YthlmcfbadhidbaaGreat
/- The reference's levels: edges in a direction, Levels. -/
namespace Go.Proofs.YthlmcfbadhidbaaGreat
open Go Go.RowKit
def edgB (ck back : Bool) (O T : List Int) : List (Int × Int) := if ck = true then edgD back O T else []
theorem pairs_le {O T : List Int} (h : halfB O T = true) : (pairs O T).length ≤ 2000 := by
  obtain ⟨r1, r2, r3, r4, r5, r6⟩ := offB_parts (halfB_off h)
  unfold pairs
  rw [pairs_len (offOk_of (halfB_off h)) r4 _ (by omega), r5]; omega
theorem edgD_len {O T : List Int} (h : halfB O T = true) (back : Bool) : (edgD back O T).length ≤ 2000 := by
  cases back with
  | false => exact pairs_le h
  | true => show ((pairs O T).map swapE).length ≤ 2000; rw [List.length_map]; exact pairs_le h
set_option maxRecDepth 100000 in
set_option maxHeartbeats 4000000 in
theorem edges07 (po : Option Addr) (no co : Nat) (O : List Int) (pt : Option Addr) (nt ct : Nat) (T : List Int) (pr : Option Addr) (nr cr : Nat) (R : List Int) (pv : Option Addr) (nv cv : Nat) (V : List Int) (w : World) (back : Bool) (hO : Rd w 1 po no (encI O)) (hT : Rd w 1 pt nt (encI T)) (hR : Rd w 1 pr nr (encI R)) (hV : Rd w 1 pv nv (encI V)) (hct : nt ≤ ct) (hcv : nv ≤ cv) : Calls Tryz.prog 97 #[.agg #[.slice po no co, .slice pt nt ct, .slice pr nr cr, .slice pv nv cv], .bool back] w fun e w' => ∃ q c, e = .returned (.tuple #[.slice q (edgB (checkR O T R V) back O T).length c, .int .i64 (edgC (checkR O T R V))]) ∧ Sep w w' [.own 74 2 q (edgB (checkR O T R V) back O T).length c (encE (edgB (checkR O T R V) back O T))] := by
  obtain ⟨i0, hi0, hz0, hz1, hz2⟩ := info_parts inf34
  have S0 := Lib.hid ((Sep.start w).al #[.slice po no co, .slice pt nt ct, .slice pr nr cr, .slice pv nv cv] 24 w.heap.size rfl)
  have HE := Lib.hid (fun W1 (h : Ext w W1) => Edges04 po no co O pt nt ct T pr nr cr R pv nv cv V W1 (hO.ext h) (hT.ext h) (hR.ext h) (hV.ext h) hct hcv)
  clear hO hT hR hV
  cases hck : checkR O T R V with
  | false =>
    rw [hck] at HE
    show Calls _ _ _ _ fun e w' => ∃ q c, e = .returned (.tuple #[.slice q 0 c, .int .i64 40]) ∧ Sep w w' [.own 74 2 q 0 c []]
    have HE2 : Hid (∀ W1, Ext w W1 → Calls Tryz.prog 110 #[.agg #[.slice po no co, .slice pt nt ct, .slice pr nr cr, .slice pv nv cv]] W1 fun e w' => ∃ q c, e = .returned (.tuple #[.slice q 0 c, .int .i64 40]) ∧ Sep W1 w' [.own 74 2 q 0 c []]) := HE.out
    clear hck HE
    cases back <;>
    (go_enter Tryz.func97, Tryz.ntmps97
     go_wp2_with (go_at_call 110; go_must (refine (HE2.out _ S0.out.ext).mono ?_; rintro e w1 ⟨q, c, rfl, Z⟩; have S1 := Lib.hid (S0.out.comp Z); clear Z))
     go_ret2
     exact ⟨q, c, rfl, S1.out.pick [0] (by decide) rfl⟩)
  | true =>
    rw [hck] at HE
    have hl := pairs_le (checkR_half hck).2.2.1
    have HE2 : Hid (∀ W1, Ext w W1 → Calls Tryz.prog 110 #[.agg #[.slice po no co, .slice pt nt ct, .slice pr nr cr, .slice pv nv cv]] W1 fun e w' => ∃ q c, e = .returned (.tuple #[.slice q (pairs O T).length c, .int .i64 0]) ∧ Sep W1 w' [.own 74 2 q (pairs O T).length c (encE (pairs O T))]) := HE.out
    clear hck HE
    cases back with
    | false =>
      show Calls _ _ _ _ fun e w' => ∃ q c, e = .returned (.tuple #[.slice q (pairs O T).length c, .int .i64 0]) ∧ Sep w w' [.own 74 2 q (pairs O T).length c (encE (pairs O T))]
      generalize pairs O T = P at *
      go_enter Tryz.func97, Tryz.ntmps97
      go_wp2_with (go_at_call 110; go_must (refine (HE2.out _ S0.out.ext).mono ?_; rintro e w1 ⟨q, c, rfl, Z⟩; have S1 := Lib.hid (S0.out.comp Z); clear Z))
      go_ret2
      exact ⟨q, c, rfl, S1.out.pick [0] (by decide) rfl⟩
    | true =>
      show Calls _ _ _ _ fun e w' => ∃ q c, e = .returned (.tuple #[.slice q ((pairs O T).map swapE).length c, .int .i64 0]) ∧ Sep w w' [.own 74 2 q ((pairs O T).map swapE).length c (encE ((pairs O T).map swapE))]
      generalize pairs O T = P at *
      go_enter Tryz.func97, Tryz.ntmps97
      go_wp2_with (go_at_call 110; go_must (refine (HE2.out _ S0.out.ext).mono ?_; rintro e w1 ⟨q, c, rfl, Z⟩; have S1 := Lib.hid ((S0.out.comp Z).pick [0] (by decide) rfl); clear Z))
      go_loopw [8, 9] (fun out i wr => ∃ (k : Nat) (q2 : Option Addr) (c2 : Nat), k ≤ P.length ∧ i = .int .i64 k ∧ out = .slice q2 k c2 ∧ Sep w wr [.own 74 2 q2 k c2 (encE ((P.take k).map swapE)), .own 74 2 q P.length c (encE P)]) (fun _ i _ => P.length - (intOf i).toNat)
      case atStart => exact ⟨0, none, 0, Nat.zero_le _, rfl, rfl, S1.out.nilrow _ _⟩
      case round =>
        clear S0 S1
        obtain ⟨k, q2, c2, hk, rfl, rfl, S⟩ := hrel
        have pq := (S.rd 1 rfl (by omega)).ptr
        have pq2 := (S.rd 0 rfl (by omega)).ptr
        by_cases hlt : k < P.length
        · have e1 := (S.rd 1 rfl (by omega)).cE hlt
          have e2 := (S.rd 1 rfl (by omega)).cE2 hlt
          have d1 : (0:Int) ≤ k := by omega
          have d2 : (k:Int) < P.length := by omega
          have HT : Hid (encE ((P.take (k + 1)).map swapE) = encE ((P.take k).map swapE) ++ encE [swapE (nth P k)]) := by
            unfold Hid; rw [map_take_succ swapE P k hlt, encE_append]
          have SH := Lib.hid S; clear S
          go_wp2
          have xe1 := fun x : ExtOf wr => x.ext.cell e1
          have xe2 := fun x : ExtOf wr => x.ext.cell e2
          refine wp_region_mix [true, true, true, true, true, true, true, true, true, true, true, true, false] (fun _ v W => ∃ p, v = .slice p 1 1 ∧ Rd W 2 p 1 (encE [swapE (nth P k)])) (by kernel_rfl) (by kernel_rfl) (by kernel_rfl) (fun _ _ _ _ hE ⟨p, h1, h2⟩ => ⟨p, h1, h2.ext hE⟩) ?_
          simp only [nfM]
          repeat (go_big_quiet_step ((fail)))
          refine wpQuiet_nil ⟨⟨fun vs W1 hE hd => ?_, trivial⟩, fun vs W1 hE hkn => ?_⟩
          · simp [putM, execOp, go_sem]
            exact ⟨Rd.one2 _ _ _ _, Ext.alloc (Below.refl _ _) _⟩
          · obtain ⟨⟨p', hv, RA⟩, _⟩ := hkn
            have HRA := Lib.hid RA; clear RA
            have S1 := Lib.hid (SH.out.call hE)
            simp only [putM, hv, List.length_cons, List.length_nil, Nat.zero_add, Nat.reduceAdd, List.drop_succ_cons, List.drop_zero]
            clear xe1 xe2 hv
            go_wp2_with (at_builtin; go_must (refine wpList_append_sep rfl _ _ _ rfl 74 i0 _ 2 16 Tryz.underlying75 hi0 hz0 hz1 hz2 rfl (by omega) S1.out 0 q2 k c2 _ rfl rfl p' 1 1 _ rfl HRA.out (one_encE _) (by omega) (by omega) ?_; intro q' c' w' S' hsz; have S2 := Lib.hid S'; clear S'))
            go_roundw
            case rel => exact ⟨k + 1, q', c', by omega, by go_num, rfl, by rw [HT.out]; exact S2.out⟩
            case measure => simp [intOf]; omega
        · obtain rfl : k = P.length := by omega
          rw [List.take_length] at S
          have SH := Lib.hid S; clear S
          go_wp2
          go_ret2
          exact ⟨q2, c2, by rw [List.length_map]; rfl, by rw [List.length_map]; exact SH.out.pick [0] (by decide) rfl⟩
end Go.Proofs.YthlmcfbadhidbaaGreat
/- The program's searches (chapter 8): a place's next ones; a side that begins. -/
namespace Go.Proofs.YthlmcfbadhidbaaGreat
open Go Go.RowKit
set_option maxRecDepth 100000 in
set_option maxHeartbeats 2000000 in
theorem open1G (po : Option Addr) (no co : Nat) (O : List Int) (pt : Option Addr) (nt ct : Nat) (T : List Int) (pr : Option Addr) (nr cr : Nat) (R : List Int) (pv : Option Addr) (nv cv : Nat) (V : List Int) (gr k : Nat) (w : World) (hO : Rd w 1 po no (encI O)) (hT : Rd w 1 pt nt (encI T)) (hok : OffOk O T) (hct : nt ≤ ct) (hk1 : k + 1 < O.length) (hB : Blk w gr 24 #[.slice po no co, .slice pt nt ct, .slice pr nr cr, .slice pv nv cv]) :
    Calls Tryz.prog 77 #[.int .i64 k, .pointer (some ⟨gr, 0, none⟩)] w fun e w' => e = .returned (.slice (cutp pt ct (nth O k).toNat 1) (rowL O T k).length (ct - (nth O k).toNat)) ∧ Ext w w' := by
  have _u := (O, T, R, V)
  clear _u
  have na1 := hO.small
  have l1 := hO.nI
  have l2 := hT.nI
  have pA := hO.ptr
  have q1 := hok.lo k (by omega)
  have q2 := hok.le k hk1
  have q3 := hok.hi (k + 1) hk1
  have hrl := rowL_len hok hk1
  have RL0 := hT.rowOf hok hct hk1
  have g1 := hO.cI (k := k) (by omega)
  have g2 := hO.cI (k := k + 1) (by omega)
  have b0 := hB.cell 0
  have b1 := hB.cell 1
  have b2 := hB.cell 2
  have b3 := hB.cell 3
  have bz := hB.lt
  obtain ⟨a, ha⟩ : ∃ a : Nat, nth O k = (a : Int) := ⟨(nth O k).toNat, by omega⟩
  obtain ⟨c, hc⟩ : ∃ c : Nat, nth O (k + 1) = (c : Int) := ⟨(nth O (k + 1)).toNat, by omega⟩
  rw [ha] at q1 q2 hrl RL0 g1
  rw [hc] at q2 q3 hrl RL0 g2
  simp only [Int.toNat_natCast] at hrl RL0
  have hq3 : (c:Int) ≤ ct := by omega
  have d1 : (0:Int) ≤ k := by omega
  have d2 : (k:Int) < no := by omega
  have d3 : (0:Int) ≤ (k:Int) + 1 := by omega
  have d4 : (k:Int) + 1 < no := by omega
  have RL := Lib.hid RL0
  rw [hrl, ha, Int.toNat_natCast]
  clear hO hT hok ha hc hrl RL0 l1 l2 q3 hk1 hB
  go_enter Tryz.func77, Tryz.ntmps77
  go_wp2
  have y0 := fun x : ExtOf w => x.ext.cell b0
  have y1 := fun x : ExtOf w => x.ext.cell b1
  have y2 := fun x : ExtOf w => x.ext.cell b2
  have y3 := fun x : ExtOf w => x.ext.cell b3
  have x1 := fun x : ExtOf w => x.ext.cell g1
  have x2 := fun x : ExtOf w => x.ext.cell g2
  refine wp_region_ext (by kernel_rfl) (by kernel_rfl) ?_
  repeat (go_big_quiet_step ((fail)))
  refine wpQuiet_nil ?_
  rintro w1 ⟨⟨_, hb1⟩, rfl⟩
  go_wp2
  go_ret
  exact ⟨rfl, hb1⟩
set_option maxRecDepth 100000 in
set_option maxHeartbeats 2000000 in
theorem open2G (po : Option Addr) (no co : Nat) (O : List Int) (pt : Option Addr) (nt ct : Nat) (T : List Int) (pr : Option Addr) (nr cr : Nat) (R : List Int) (pv : Option Addr) (nv cv : Nat) (V : List Int) (gr k : Nat) (w : World) (hO : Rd w 1 pr nr (encI R)) (hT : Rd w 1 pv nv (encI V)) (hok : OffOk R V) (hct : nv ≤ cv) (hk1 : k + 1 < R.length) (hB : Blk w gr 24 #[.slice po no co, .slice pt nt ct, .slice pr nr cr, .slice pv nv cv]) :
    Calls Tryz.prog 78 #[.int .i64 k, .pointer (some ⟨gr, 0, none⟩)] w fun e w' => e = .returned (.slice (cutp pv cv (nth R k).toNat 1) (rowL R V k).length (cv - (nth R k).toNat)) ∧ Ext w w' := by
  have _u := (O, T, R, V)
  clear _u
  have na1 := hO.small
  have l1 := hO.nI
  have l2 := hT.nI
  have pA := hO.ptr
  have q1 := hok.lo k (by omega)
  have q2 := hok.le k hk1
  have q3 := hok.hi (k + 1) hk1
  have hrl := rowL_len hok hk1
  have RL0 := hT.rowOf hok hct hk1
  have g1 := hO.cI (k := k) (by omega)
  have g2 := hO.cI (k := k + 1) (by omega)
  have b0 := hB.cell 0
  have b1 := hB.cell 1
  have b2 := hB.cell 2
  have b3 := hB.cell 3
  have bz := hB.lt
  obtain ⟨a, ha⟩ : ∃ a : Nat, nth R k = (a : Int) := ⟨(nth R k).toNat, by omega⟩
  obtain ⟨c, hc⟩ : ∃ c : Nat, nth R (k + 1) = (c : Int) := ⟨(nth R (k + 1)).toNat, by omega⟩
  rw [ha] at q1 q2 hrl RL0 g1
  rw [hc] at q2 q3 hrl RL0 g2
  simp only [Int.toNat_natCast] at hrl RL0
  have hq3 : (c:Int) ≤ cv := by omega
  have d1 : (0:Int) ≤ k := by omega
  have d2 : (k:Int) < nr := by omega
  have d3 : (0:Int) ≤ (k:Int) + 1 := by omega
  have d4 : (k:Int) + 1 < nr := by omega
  have RL := Lib.hid RL0
  rw [hrl, ha, Int.toNat_natCast]
  clear hO hT hok ha hc hrl RL0 l1 l2 q3 hk1 hB
  go_enter Tryz.func78, Tryz.ntmps78
  go_wp2
  have y0 := fun x : ExtOf w => x.ext.cell b0
  have y1 := fun x : ExtOf w => x.ext.cell b1
  have y2 := fun x : ExtOf w => x.ext.cell b2
  have y3 := fun x : ExtOf w => x.ext.cell b3
  have x1 := fun x : ExtOf w => x.ext.cell g1
  have x2 := fun x : ExtOf w => x.ext.cell g2
  refine wp_region_ext (by kernel_rfl) (by kernel_rfl) ?_
  repeat (go_big_quiet_step ((fail)))
  refine wpQuiet_nil ?_
  rintro w1 ⟨⟨_, hb1⟩, rfl⟩
  go_wp2
  go_ret
  exact ⟨rfl, hb1⟩
theorem open1Gr (po : Option Addr) (no co : Nat) (O : List Int) (pt : Option Addr) (nt ct : Nat) (T : List Int) (pr : Option Addr) (nr cr : Nat) (R : List Int) (pv : Option Addr) (nv cv : Nat) (V : List Int) (gr k : Nat) (w : World) (hO : Rd w 1 po no (encI O)) (hT : Rd w 1 pt nt (encI T)) (hok : OffOk O T) (hct : nt ≤ ct) (hk1 : k + 1 < O.length) (hB : Blk w gr 24 #[.slice po no co, .slice pt nt ct, .slice pr nr cr, .slice pv nv cv]) :
    ∃ q c, Rd w 1 q (rowL O T k).length (encI (rowL O T k)) ∧ ∀ W, Ext w W → Calls Tryz.prog 77 #[.int .i64 k, .pointer (some ⟨gr, 0, none⟩)] W fun e w' => e = .returned (.slice q (rowL O T k).length c) ∧ Ext W w' := by
  refine ⟨_, _, ?_, fun W h => open1G po no co O pt nt ct T pr nr cr R pv nv cv V gr k W (hO.ext h) (hT.ext h) hok hct hk1 (hB.ext h)⟩
  have := hT.rowOf hok hct hk1
  rw [← rowL_len hok hk1] at this
  exact this
theorem open2Gr (po : Option Addr) (no co : Nat) (O : List Int) (pt : Option Addr) (nt ct : Nat) (T : List Int) (pr : Option Addr) (nr cr : Nat) (R : List Int) (pv : Option Addr) (nv cv : Nat) (V : List Int) (gr k : Nat) (w : World) (hO : Rd w 1 pr nr (encI R)) (hT : Rd w 1 pv nv (encI V)) (hok : OffOk R V) (hct : nv ≤ cv) (hk1 : k + 1 < R.length) (hB : Blk w gr 24 #[.slice po no co, .slice pt nt ct, .slice pr nr cr, .slice pv nv cv]) :
    ∃ q c, Rd w 1 q (rowL R V k).length (encI (rowL R V k)) ∧ ∀ W, Ext w W → Calls Tryz.prog 78 #[.int .i64 k, .pointer (some ⟨gr, 0, none⟩)] W fun e w' => e = .returned (.slice q (rowL R V k).length c) ∧ Ext W w' := by
  refine ⟨_, _, ?_, fun W h => open2G po no co O pt nt ct T pr nr cr R pv nv cv V gr k W (hO.ext h) (hT.ext h) hok hct hk1 (hB.ext h)⟩
  have := hT.rowOf hok hct hk1
  rw [← rowL_len hok hk1] at this
  exact this
end Go.Proofs.YthlmcfbadhidbaaGreat
/- The program's searches (chapter 8): a side that begins. -/
namespace Go.Proofs.YthlmcfbadhidbaaGreat
open Go Go.RowKit
theorem Sep.alrow {w0 w : World} {Γ : List Pc} (S : Sep w0 w Γ) (cs : Array Value) (e : TypeId) (size n g : Nat) (hg : w.heap.size = g) (hm : n ≤ maxLen) (hs : cs.size = n * size) : Sep w0 (w.alloc (.cells cs e)) (.own e size (some ⟨g, 0, none⟩) n n cs.toList :: Γ) := by
  subst hg
  exact S.fresh (Ext.alloc (Below.refl _ _) _) (World.ownsRow_lit w cs n (Nat.le_refl _) hm hs) (Nat.le_refl _)
set_option maxRecDepth 100000 in
set_option maxHeartbeats 2000000 in
theorem beginG (fid gr n s : Nat) (w : World) (hs : s < n) (hn : n ≤ 200) :
    Calls Tryz.prog 79 #[.int .i64 n, .int .i64 s, .func (.func fid) #[] #[.pointer (some ⟨gr, 0, none⟩)]] w fun e w' => ∃ g ql qf, e = .returned (.pointer (some ⟨g, 0, none⟩)) ∧
      Sep w w' [.blk g 146 #[.func (.func fid) #[] #[.pointer (some ⟨gr, 0, none⟩)], .slice ql n n, .slice qf 1 1], .own 3 1 qf 1 1 (encI [(s : Int)]), .own 3 1 ql n n (encI (bf0 n s))] := by
  obtain ⟨i0, hi0, hz0, hz1, hz2⟩ := info_parts infI
  go_enter Tryz.func79, Tryz.ntmps79
  go_wp2_with (at_make; go_must (refine wpList_make_sep rfl _ _ _ rfl 3 i0 _ 1 Tryz.underlying22 hi0 hz0 hz1 (n:Int) n rfl rfl rfl (by rw [hz2]; omega) (by unfold maxLen; omega) (Sep.start w) ?_; intro w1 S'; rw [made_encI] at S'; have S1 := Lib.hid S'; clear S'))
  generalize hql : (some ⟨w.heap.size, 0, none⟩ : Option Addr) = ql at *
  clear hql
  have S2 := Lib.hid ((S1.out.alrow #[.int .i64 (s:Int)] 3 1 1 w1.heap.size rfl (by decide) rfl).al #[.func (.func fid) #[] #[.pointer (some ⟨gr, 0, none⟩)], .slice ql n n, .slice (some ⟨w1.heap.size, 0, none⟩) 1 1] 146 (w1.heap.size + 1) (by simp))
  clear S1
  go_loopw [8, 21] (fun _ i wr => ∃ k : Nat, k ≤ n ∧ i = .int .i64 k ∧ Sep w wr [.blk (w1.heap.size + 1) 146 #[.func (.func fid) #[] #[.pointer (some ⟨gr, 0, none⟩)], .slice ql n n, .slice (some ⟨w1.heap.size, 0, none⟩) 1 1], .own 3 1 (some ⟨w1.heap.size, 0, none⟩) 1 1 (encI [(s : Int)]), .own 3 1 ql n n (encI (List.replicate k (-1) ++ List.replicate (n - k) 0))]) (fun _ i _ => n - (intOf i).toNat)
  case atStart => exact ⟨0, Nat.zero_le _, rfl, S2.out⟩
  case round =>
    clear S2
    obtain ⟨k, hk, rfl, S⟩ := hrel
    have az := (S.blk 0 rfl).lt; have a0 := (S.blk 0 rfl).cell 0; have a1 := (S.blk 0 rfl).cell 1; have a2 := (S.blk 0 rfl).cell 2
    have po := (S.rd 2 rfl (by omega)).ptr
    have fz := own_frozen (S.own 2 rfl) (by omega) k
    by_cases hlt : k < n
    · have HS := Lib.hid (rep_set hlt)
      have c1 := own_cell (S.own 2 rfl) (k := k) (by omega)
      have d1 : (0:Int) ≤ k := by omega
      have d2 : (k:Int) < n := by omega
      have SH := Lib.hid S; clear S
      go_wp2
      go_roundw
      case rel => exact ⟨k + 1, by omega, by go_num, by rw [← HS.out, ← encI_set]; exact SH.out.setRow 2 rfl k (by omega) (.int .i64 (-1))⟩
      case measure => simp [intOf]; omega
    · obtain rfl : k = n := by omega
      rw [Nat.sub_self, List.replicate_zero, List.append_nil] at S
      have fz2 := own_frozen (S.own 2 rfl) (by omega) s
      have c2 := own_cell (S.own 2 rfl) (k := s) (by omega)
      have d1 : (0:Int) ≤ s := by omega
      have d2 : (s:Int) < k := by omega
      have SH := Lib.hid S; clear S
      clear fz
      go_wp2
      go_ret
      exact ⟨_, ql, _, rfl, by unfold bf0; rw [← encI_set]; exact SH.out.setRow 2 rfl s (by omega) (.int .i64 0)⟩
end Go.Proofs.YthlmcfbadhidbaaGreat
/- The reference's Levels: levels are lowered edge by edge. -/
namespace Go.Proofs.YthlmcfbadhidbaaGreat
open Go Go.RowKit
set_option maxRecDepth 100000 in
set_option maxHeartbeats 8000000 in
theorem Levels07_yes (po : Option Addr) (no co : Nat) (O : List Int) (pt : Option Addr) (nt ct : Nat) (T : List Int) (pr : Option Addr) (nr cr : Nat) (R : List Int) (pv : Option Addr) (nv cv : Nat) (V : List Int) (w : World) (n s : Nat) (back : Bool) (hO : Rd w 1 po no (encI O)) (hT : Rd w 1 pt nt (encI T)) (hR : Rd w 1 pr nr (encI R)) (hV : Rd w 1 pv nv (encI V)) (hct : nt ≤ ct) (hcv : nv ≤ cv) (hck : checkR O T R V = true) (hno : O.length = n + 1) (hs : s < n) :
    Calls Tryz.prog 74 #[.agg #[.slice po no co, .slice pt nt ct, .slice pr nr cr, .slice pv nv cv], .int .i64 s, .bool back] w fun e w' => ∃ q c, e = .returned (.tuple #[.slice q n c, .int .i64 0]) ∧ Sep w w' [.own 3 1 q n c (encI ((List.range n).map fun v => lev (nxR back O T R V) n s v))] := by
  obtain ⟨i0, hi0, hz0, hz1, hz2⟩ := info_parts infI
  have S0 := Lib.hid ((Sep.start w).al #[.slice po no co, .slice pt nt ct, .slice pr nr cr, .slice pv nv cv] 24 w.heap.size rfl)
  have HE := Lib.hid (fun W1 (h : Ext w W1) => edges07 po no co O pt nt ct T pr nr cr R pv nv cv V W1 back (hO.ext h) (hT.ext h) (hR.ext h) (hV.ext h) hct hcv)
  rw [hck] at HE
  have HE2 : Hid (∀ W1, Ext w W1 → Calls Tryz.prog 97 #[.agg #[.slice po no co, .slice pt nt ct, .slice pr nr cr, .slice pv nv cv], .bool back] W1 fun e w' => ∃ q c, e = .returned (.tuple #[.slice q (edgD back O T).length c, .int .i64 0]) ∧ Sep W1 w' [.own 74 2 q (edgD back O T).length c (encE (edgD back O T))]) := HE.out
  have h1 := (checkR_half hck).2.2.1
  have r := offB_parts (halfB_off h1)
  have hn : n ≤ 200 := by omega
  have l1 := hO.nI
  obtain rfl : no = n + 1 := by omega
  have hbd := edgD_bd h1 back
  have hmem := edgD_mem hck back
  have hml := edgD_len h1 back
  rw [hno, Nat.add_sub_cancel] at hbd hmem
  have HFIN : Hid (bfN (edgD back O T) (bf0 n s) n = (List.range n).map fun v => lev (nxR back O T R V) n s v) := bfN_lev hs hbd hmem (bf0_low hs) (by rw [bf0_nth hs s hs, if_pos rfl])
  have HBD := Lib.hid hbd
  generalize edgD back O T = l at *
  clear hO hT hR hV hck hno h1 r l1 hbd hmem HE
  have d1 : decide ((s:Int) < 0) = false := by simp
  have d2 : decide ((n:Int) ≤ s) = false := by simp; omega
  have d3 : decide (n ≤ s) = false := by simp; omega
  go_enter Tryz.func74, Tryz.ntmps74
  go_wp2_with (first
    | (at_make; go_must (refine wpList_make_sep rfl _ _ _ rfl 3 i0 _ 1 Tryz.underlying22 hi0 hz0 hz1 (n:Int) n rfl rfl rfl (by rw [hz2]; omega) (by unfold maxLen; omega) S1.out ?_; intro w2 S'; rw [made_encI] at S'; have S2 := Lib.hid S'; clear S'))
    | (go_at_call 97; go_must (refine (HE2.out _ S0.out.ext).mono ?_; rintro e w1 ⟨q1, c1, rfl, Z⟩; have S1 := Lib.hid (S0.out.comp Z); have az := (S1.out.blk 1 rfl).lt; have a0 := (S1.out.blk 1 rfl).cell 0; have a1 := (S1.out.blk 1 rfl).cell 1; have a2 := (S1.out.blk 1 rfl).cell 2; have a3 := (S1.out.blk 1 rfl).cell 3; clear Z)))
  generalize hql : (some ⟨w1.heap.size, 0, none⟩ : Option Addr) = qo at *
  clear hql S1 S0 a0 a1 a2 a3 az
  go_loopw [12] (fun v wr => ∃ k : Nat, k ≤ n ∧ v = .int .i64 k ∧ Sep w wr [.own 3 1 qo n n (encI (List.replicate k (-1) ++ List.replicate (n - k) 0)), .own 74 2 q1 l.length c1 (encE l), .blk w.heap.size 24 #[.slice po (n + 1) co, .slice pt nt ct, .slice pr nr cr, .slice pv nv cv]]) (fun v _ => n - (intOf v).toNat)
  case atStart => exact ⟨0, Nat.zero_le _, rfl, S2.out⟩
  case round =>
    clear S2
    obtain ⟨k, hk, rfl, S⟩ := hrel
    have pz := (S.rd 0 rfl (by omega)).ptr
    have fz := own_frozen (S.own 0 rfl) (by omega) k
    by_cases hlt : k < n
    · have HS := Lib.hid (rep_set hlt)
      have c1 := own_cell (S.own 0 rfl) (k := k) (by omega)
      have d1 : (0:Int) ≤ k := by omega
      have d2 : (k:Int) < n := by omega
      have SH := Lib.hid S; clear S
      go_wp2
      go_roundw
      case rel => exact ⟨k + 1, by omega, by go_num, by rw [← HS.out, ← encI_set]; exact SH.out.setRow 0 rfl k (by omega) (.int .i64 (-1))⟩
      case measure => simp [intOf]; omega
    · obtain rfl : n = k := by omega
      rw [Nat.sub_self, List.replicate_zero, List.append_nil] at S
      have fz2 := own_frozen (S.own 0 rfl) (by omega) s
      have c2 := own_cell (S.own 0 rfl) (k := s) (by omega)
      have d4 : (0:Int) ≤ s := by omega
      have d5 : (s:Int) < n := by omega
      have SH := Lib.hid S; clear S
      clear fz
      go_wp2
      go_loopw [13, 14, 15, 16] (fun v _ _ _ wr => ∃ t : Nat, t ≤ n ∧ v = .int .i64 t ∧ Sep w wr [.own 3 1 qo n n (encI (bfN l (bf0 n s) t)), .own 74 2 q1 l.length c1 (encE l), .blk w.heap.size 24 #[.slice po (n + 1) co, .slice pt nt ct, .slice pr nr cr, .slice pv nv cv]]) (fun v _ _ _ _ => n - (intOf v).toNat)
      case atStart => exact ⟨0, Nat.zero_le _, rfl, by show Sep _ _ (.own _ _ _ _ _ (encI (bf0 n s)) :: _); unfold bf0; rw [← encI_set]; exact SH.out.setRow 0 rfl s (by omega) (.int .i64 0)⟩
      case round =>
        clear SH fz2 c2 hlt
        obtain ⟨t, ht, rfl, S⟩ := hrel
        by_cases hlt : t < n
        · have d6 : (0:Int) ≤ t := by omega
          have d7 : (t:Int) < n := by omega
          have SH := Lib.hid S; clear S
          go_wp2
          go_loopw [14, 15, 16] (fun i _ _ wr => ∃ j : Nat, j ≤ l.length ∧ i = .int .i64 j ∧ Sep w wr [.own 3 1 qo n n (encI (bfR (l.take j) (bfN l (bf0 n s) t))), .own 74 2 q1 l.length c1 (encE l), .blk w.heap.size 24 #[.slice po (n + 1) co, .slice pt nt ct, .slice pr nr cr, .slice pv nv cv]]) (fun i _ _ _ => l.length - (intOf i).toNat)
          case atStart => exact ⟨0, Nat.zero_le _, rfl, SH.out⟩
          case round =>
            clear SH
            obtain ⟨j, hj, rfl, S⟩ := hrel
            have pz := (S.rd 0 rfl (by omega)).ptr
            have pe := (S.rd 1 rfl (by omega)).ptr
            by_cases hlj : j < l.length
            · have hs1 := Lib.hid (bfR_take (X := bfN l (bf0 n s) t) hlj)
              have hb : ∀ v, -1 ≤ nth (bfR (l.take j) (bfN l (bf0 n s) t)) v ∧ nth (bfR (l.take j) (bfN l (bf0 n s) t)) v ≤ 1000000 := fun v => by
                have g1 := bfR_bd (l := l) j (bfN l (bf0 n s) t) (Int.natCast_nonneg (t * l.length)) (bfN_bd t) v
                have g2 : t * l.length ≤ 200 * 2000 := Nat.mul_le_mul (by omega) (by omega)
                omega
              generalize bfR (l.take j) (bfN l (bf0 n s) t) = X at *
              have e1 := (S.rd 1 rfl (by omega)).cE hlj
              have e2 := (S.rd 1 rfl (by omega)).cE2 hlj
              obtain ⟨b1, b2, b3, b4⟩ := HBD.out _ (nth_mem hlj)
              obtain ⟨a, ha⟩ : ∃ a : Nat, (nth l j).1 = (a : Int) := ⟨(nth l j).1.toNat, by omega⟩
              obtain ⟨b, hb'⟩ : ∃ b : Nat, (nth l j).2 = (b : Int) := ⟨(nth l j).2.toNat, by omega⟩
              rw [ha] at b1 b2 e1
              rw [hb'] at b3 b4 e2
              have hs2 : Hid (bfR (l.take (j + 1)) (bfN l (bf0 n s) t) = if 0 ≤ nth X a ∧ (nth X b < 0 ∨ nth X a + 1 < nth X b) then X.set b (nth X a + 1) else X) := by
                unfold Hid; rw [hs1.out]; unfold bf1; rw [ha, hb', Int.toNat_natCast, Int.toNat_natCast]
              clear ha hb' hs1
              have fa := own_frozen (S.own 0 rfl) (by omega) b
              have ca := (S.rd 0 rfl (by omega)).cI (k := a) (by omega)
              have cb := (S.rd 0 rfl (by omega)).cI (k := b) (by omega)
              have ba := hb a
              have bb := hb b
              clear hb
              have d8 : (0:Int) ≤ j := by omega
              have d9 : (j:Int) < l.length := by omega
              have dA : (a:Int) < n := b2
              have dB : (b:Int) < n := b4
              generalize nth X a = x at *
              generalize nth X b = y at *
              by_cases k1 : 0 ≤ x
              · have f1 : decide (0 ≤ x) = true := by simpa using k1
                by_cases k2 : y < 0
                · have f2 : decide (y < 0) = true := by simpa using k2
                  rw [if_pos ⟨k1, .inl k2⟩] at hs2
                  have SH := Lib.hid S; clear S
                  go_wp2
                  go_roundw
                  case rel => exact ⟨j + 1, by omega, by go_num, by rw [hs2.out, ← encI_set]; exact SH.out.setRow 0 rfl b (by omega) (.int .i64 (x + 1))⟩
                  case measure => simp [intOf]; omega
                · have f2 : decide (y < 0) = false := by simpa using k2
                  by_cases k3 : x + 1 < y
                  · have f3 : decide (x + 1 < y) = true := by simpa using k3
                    rw [if_pos ⟨k1, .inr k3⟩] at hs2
                    have SH := Lib.hid S; clear S
                    go_wp2
                    go_roundw
                    case rel => exact ⟨j + 1, by omega, by go_num, by rw [hs2.out, ← encI_set]; exact SH.out.setRow 0 rfl b (by omega) (.int .i64 (x + 1))⟩
                    case measure => simp [intOf]; omega
                  · have f3 : decide (x + 1 < y) = false := by simpa using k3
                    rw [if_neg (by omega)] at hs2
                    have SH := Lib.hid S; clear S
                    go_wp2
                    go_roundw
                    case rel => exact ⟨j + 1, by omega, by go_num, by rw [hs2.out]; exact SH.out⟩
                    case measure => simp [intOf]; omega
              · have f1 : decide (0 ≤ x) = false := by simpa using k1
                rw [if_neg (by omega)] at hs2
                have SH := Lib.hid S; clear S
                go_wp2
                go_roundw
                case rel => exact ⟨j + 1, by omega, by go_num, by rw [hs2.out]; exact SH.out⟩
                case measure => simp [intOf]; omega
            · obtain rfl : j = l.length := by omega
              rw [List.take_length] at S
              have SH := Lib.hid S; clear S
              go_wp2
              go_roundw
              case rel => exact ⟨t + 1, by omega, by go_num, SH.out⟩
              case measure => simp [intOf]; omega
        · obtain rfl : n = t := by omega
          rw [HFIN.out] at S
          have SH := Lib.hid S; clear S
          go_wp2
          go_ret2
          exact ⟨qo, _, rfl, SH.out.pick [0] (by decide) rfl⟩
end Go.Proofs.YthlmcfbadhidbaaGreat
/- The reference's Levels, whatever is asked. -/
namespace Go.Proofs.YthlmcfbadhidbaaGreat
open Go Go.RowKit
set_option maxRecDepth 100000 in
set_option maxHeartbeats 4000000 in
theorem Levels07_no (po : Option Addr) (no co : Nat) (O : List Int) (pt : Option Addr) (nt ct : Nat) (T : List Int) (pr : Option Addr) (nr cr : Nat) (R : List Int) (pv : Option Addr) (nv cv : Nat) (V : List Int) (w : World) (s : Int) (back : Bool) (hO : Rd w 1 po no (encI O)) (hT : Rd w 1 pt nt (encI T)) (hR : Rd w 1 pr nr (encI R)) (hV : Rd w 1 pv nv (encI V)) (hct : nt ≤ ct) (hcv : nv ≤ cv) (hc : levC (checkR O T R V) O s ≠ 0) :
    Calls Tryz.prog 74 #[.agg #[.slice po no co, .slice pt nt ct, .slice pr nr cr, .slice pv nv cv], .int .i64 s, .bool back] w fun e w' => e = .returned (.tuple #[.slice none 0 0, .int .i64 (levC (checkR O T R V) O s)]) ∧ Ext w w' := by
  have S0 := Lib.hid ((Sep.start w).al #[.slice po no co, .slice pt nt ct, .slice pr nr cr, .slice pv nv cv] 24 w.heap.size rfl)
  have HE := Lib.hid (fun W1 (h : Ext w W1) => edges07 po no co O pt nt ct T pr nr cr R pv nv cv V W1 back (hO.ext h) (hT.ext h) (hR.ext h) (hV.ext h) hct hcv)
  have l1 := hO.nI
  have n1 := hO.small
  clear hO hT hR hV
  unfold levC at *
  cases hck : checkR O T R V with
  | false =>
    rw [hck] at HE
    rw [if_neg (by simp)]
    have HE2 : Hid (∀ W1, Ext w W1 → Calls Tryz.prog 97 #[.agg #[.slice po no co, .slice pt nt ct, .slice pr nr cr, .slice pv nv cv], .bool back] W1 fun e w' => ∃ q c, e = .returned (.tuple #[.slice q 0 c, .int .i64 40]) ∧ Sep W1 w' [.own 74 2 q 0 c []]) := HE.out
    clear HE hck hc l1
    have HE := HE2
    clear HE2
    go_enter Tryz.func74, Tryz.ntmps74
    go_wp2_with (go_at_call 97; go_must (refine (HE.out _ S0.out.ext).mono ?_; rintro e w1 ⟨q1, c1, rfl, Z⟩; have S1 := Lib.hid (S0.out.comp Z); have az := (S1.out.blk 1 rfl).lt; have a0 := (S1.out.blk 1 rfl).cell 0; have a1 := (S1.out.blk 1 rfl).cell 1; have a2 := (S1.out.blk 1 rfl).cell 2; have a3 := (S1.out.blk 1 rfl).cell 3; clear Z))
    go_ret2
    exact ⟨rfl, S1.out.ext⟩
  | true =>
    rw [hck, if_pos rfl] at hc
    rw [hck] at HE
    rw [if_pos rfl]
    have hno : ¬ (0 ≤ s ∧ s < (O.length : Int) - 1) := fun h => by rw [if_pos h] at hc; exact hc rfl
    rw [if_neg hno]
    have HE2 : Hid (∀ W1, Ext w W1 → Calls Tryz.prog 97 #[.agg #[.slice po no co, .slice pt nt ct, .slice pr nr cr, .slice pv nv cv], .bool back] W1 fun e w' => ∃ q c, e = .returned (.tuple #[.slice q (edgD back O T).length c, .int .i64 0]) ∧ Sep W1 w' [.own 74 2 q (edgD back O T).length c (encE (edgD back O T))]) := HE.out
    clear HE hck hc
    have HE := HE2
    clear HE2
    generalize edgD back O T = l at *
    by_cases h1 : s < 0
    · have d1 : decide (s < 0) = true := by simpa using h1
      clear hno l1
      go_enter Tryz.func74, Tryz.ntmps74
      go_wp2_with (go_at_call 97; go_must (refine (HE.out _ S0.out.ext).mono ?_; rintro e w1 ⟨q1, c1, rfl, Z⟩; have S1 := Lib.hid (S0.out.comp Z); have az := (S1.out.blk 1 rfl).lt; have a0 := (S1.out.blk 1 rfl).cell 0; have a1 := (S1.out.blk 1 rfl).cell 1; have a2 := (S1.out.blk 1 rfl).cell 2; have a3 := (S1.out.blk 1 rfl).cell 3; clear Z))
      go_ret2
      exact ⟨rfl, S1.out.ext⟩
    · have d1 : decide (s < 0) = false := by simpa using h1
      have d2 : decide ((no:Int) - 1 ≤ s) = true := by simp; omega
      clear hno l1
      go_enter Tryz.func74, Tryz.ntmps74
      go_wp2_with (go_at_call 97; go_must (refine (HE.out _ S0.out.ext).mono ?_; rintro e w1 ⟨q1, c1, rfl, Z⟩; have S1 := Lib.hid (S0.out.comp Z); have az := (S1.out.blk 1 rfl).lt; have a0 := (S1.out.blk 1 rfl).cell 0; have a1 := (S1.out.blk 1 rfl).cell 1; have a2 := (S1.out.blk 1 rfl).cell 2; have a3 := (S1.out.blk 1 rfl).cell 3; clear Z))
      go_ret2
      exact ⟨rfl, S1.out.ext⟩
/-- whatever is asked -/
theorem Levels07 (po : Option Addr) (no co : Nat) (O : List Int) (pt : Option Addr) (nt ct : Nat) (T : List Int) (pr : Option Addr) (nr cr : Nat) (R : List Int) (pv : Option Addr) (nv cv : Nat) (V : List Int) (w : World) (s : Int) (back : Bool) (hO : Rd w 1 po no (encI O)) (hT : Rd w 1 pt nt (encI T)) (hR : Rd w 1 pr nr (encI R)) (hV : Rd w 1 pv nv (encI V)) (hct : nt ≤ ct) (hcv : nv ≤ cv) :
    Calls Tryz.prog 74 #[.agg #[.slice po no co, .slice pt nt ct, .slice pr nr cr, .slice pv nv cv], .int .i64 s, .bool back] w fun e w' => ∃ q c, e = .returned (.tuple #[.slice q (levR (checkR O T R V) back O T R V s).length c, .int .i64 (levC (checkR O T R V) O s)]) ∧ Sep w w' [.own 3 1 q (levR (checkR O T R V) back O T R V s).length c (encI (levR (checkR O T R V) back O T R V s))] := by
  by_cases hc : levC (checkR O T R V) O s = 0
  · have hck : checkR O T R V = true := by
      apply Classical.byContradiction; intro h
      unfold levC at hc; rw [if_neg h] at hc; omega
    have hs : 0 ≤ s ∧ s < (O.length : Int) - 1 := by
      apply Classical.byContradiction; intro h
      unfold levC at hc; rw [if_pos hck, if_neg h] at hc; omega
    obtain ⟨n, hn⟩ : ∃ n, O.length = n + 1 := ⟨O.length - 1, by omega⟩
    obtain ⟨a, rfl⟩ : ∃ a : Nat, s = (a : Int) := ⟨s.toNat, by omega⟩
    have e : levR (checkR O T R V) back O T R V a = (List.range n).map fun v => lev (nxR back O T R V) n a v := by
      unfold levR; rw [if_pos hc, hn]; rfl
    rw [hc, e]
    refine (Levels07_yes po no co O pt nt ct T pr nr cr R pv nv cv V w n a back hO hT hR hV hct hcv hck hn (by omega)).mono ?_
    rintro e w' ⟨q, c, rfl, S⟩
    have hl : ((List.range n).map fun v => lev (nxR back O T R V) n a v).length = n := by simp
    refine ⟨q, c, by rw [hl], by rw [hl]; exact S⟩
  · have e : levR (checkR O T R V) back O T R V s = [] := by unfold levR; rw [if_neg hc]
    rw [e]
    refine (Levels07_no po no co O pt nt ct T pr nr cr R pv nv cv V w s back hO hT hR hV hct hcv hc).mono ?_
    rintro e w' ⟨rfl, h⟩
    exact ⟨none, 0, rfl, ((Sep.start w).call h).nilrow _ _⟩
end Go.Proofs.YthlmcfbadhidbaaGreat
/- An own row is small. -/
namespace Go.Proofs.YthlmcfbadhidbaaGreat
open Go Go.RowKit
theorem own_sm {w : World} {base : Nat} {e : TypeId} {size : Nat} {q : Option Addr} {n c : Nat} {xs : List Value} (h : w.ownsRow base e size (.slice q n c) n xs) : n ≤ 9223372036854775807 := by
  rcases h.2 with ⟨_, h2⟩ | ⟨g, cap, cur, h1, _, _, h3, h4, _⟩
  · omega
  · unfold maxLen at h4; omega
theorem Sep.rdx {w0 w : World} {Γ : List Pc} (S : Sep w0 w Γ) (i : Nat) {e : TypeId} {size : Nat} {q : Option Addr} {n c : Nat} {xs : List Value} (h : Γ[i]? = some (.own e size q n c xs)) : Rd w size q n xs := Rd.of_own (S.own i h) (own_sm (S.own i h))
end Go.Proofs.YthlmcfbadhidbaaGreat
/- The reference's levels (chapter 7): Ball, Reach. -/
namespace Go.Proofs.YthlmcfbadhidbaaGreat
open Go Go.RowKit
/-- the places of the first k whose numbers are 0 to rad -/
def ballT (A : List Int) (rad : Int) (k : Nat) : List Int := ((List.range k).filter fun v => decide (0 ≤ nth A v) && decide (nth A v ≤ rad)).map fun v : Nat => (v : Int)
theorem ballT_step (A : List Int) (rad : Int) (k : Nat) : ballT A rad (k + 1) = ballT A rad k ++ (if (decide (0 ≤ nth A k) && decide (nth A k ≤ rad)) = true then [(k : Int)] else []) := by
  unfold ballT
  rw [List.range_succ, List.filter_append, List.map_append]
  congr 1
  cases h : (decide (0 ≤ nth A k) && decide (nth A k ≤ rad)) <;> simp [h]
theorem ballT_len (A : List Int) (rad : Int) (k : Nat) : (ballT A rad k).length ≤ k := by
  unfold ballT
  rw [List.length_map]
  exact Nat.le_trans (List.length_filter_le _ _) (by simp)
def ballC (ck : Bool) (O : List Int) (s rad : Int) : Int := if levC ck O s = 0 then (if rad < 0 then 1 else 0) else levC ck O s
def ballV (ck back : Bool) (O T R V : List Int) (s rad : Int) : List Int := if ballC ck O s rad = 0 then ballT (levR ck back O T R V s) rad (levR ck back O T R V s).length else []
theorem levR_len {ck back : Bool} {O T R V : List Int} {s : Int} (h : levC ck O s = 0) : (levR ck back O T R V s).length = O.length - 1 := by unfold levR; rw [if_pos h]; simp
end Go.Proofs.YthlmcfbadhidbaaGreat
/- The program's levels (chapter 7): ways, in a direction; open. -/
namespace Go.Proofs.YthlmcfbadhidbaaGreat
open Go Go.RowKit
/-- the error of rows and of places -/
def openC (ck : Bool) (O : List Int) (l : List Int) : Int := if ck = true then (if l.all (fun x => decide (0 ≤ x) && decide (x < (O.length : Int) - 1)) = true then 0 else 1) else 40
end Go.Proofs.YthlmcfbadhidbaaGreat
/- The reference's levels (chapter 7): Front. -/
namespace Go.Proofs.YthlmcfbadhidbaaGreat
open Go Go.RowKit
/-- the places that ways from these lead to, way by way -/
def frontE (E : List (Int × Int)) (l : List Int) (k : Nat) : List Int := ((E.take k).filter fun e => inB l e.1).map (·.2)
theorem frontE_step {E : List (Int × Int)} {l : List Int} {k : Nat} (h : k < E.length) : frontE E l (k + 1) = frontE E l k ++ (if inB l (nth E k).1 = true then [(nth E k).2] else []) := by
  unfold frontE
  rw [take_succ_nth E k h, List.filter_append, List.map_append]
  congr 1
  cases h2 : inB l (nth E k).1 <;> simp [h2]
theorem frontE_len (E : List (Int × Int)) (l : List Int) (k : Nat) : (frontE E l k).length ≤ E.length := by
  unfold frontE
  rw [List.length_map]
  exact Nat.le_trans (List.length_filter_le _ _) (by rw [List.length_take]; omega)
def frontV (ck back : Bool) (O T l : List Int) : List Int := if openC ck O l = 0 then putAll ltI (frontE (edgD back O T) l (edgD back O T).length) else []
end Go.Proofs.YthlmcfbadhidbaaGreat
/- The program's front (chapter 7), in plain Lean. -/
namespace Go.Proofs.YthlmcfbadhidbaaGreat
open Go Go.RowKit
/-- where these lead to, one after the other -/
def frontR (nx : Nat → List Int) (l : List Int) : List Int := l.flatMap fun v => nx v.toNat
theorem frontR_step {nx : Nat → List Int} {l : List Int} {k : Nat} (h : k < l.length) : frontR nx (l.take (k + 1)) = frontR nx (l.take k) ++ nx (nth l k).toNat := by
  unfold frontR
  rw [take_succ_nth l k h, List.flatMap_append]; simp
theorem frontR_len {nx : Nat → List Int} {B : Nat} : ∀ {l : List Int}, (∀ x ∈ l, (nx x.toNat).length ≤ B) → (frontR nx l).length ≤ l.length * B
  | [], _ => by simp [frontR]
  | a :: l, h => by
    have h1 := frontR_len (l := l) (nx := nx) (B := B) fun x hx => h x (List.mem_cons_of_mem _ hx)
    have h2 := h a List.mem_cons_self
    have e : frontR nx (a :: l) = nx a.toNat ++ frontR nx l := by simp [frontR]
    rw [e, List.length_append, List.length_cons, Nat.succ_mul]
    omega
theorem sortI_by (l : List Int) : sortI l = sortBy ltI l := by
  unfold sortI sortBy
  congr 1
  funext x y
  unfold ltI
  by_cases h : x ≤ y
  · rw [decide_eq_true h]; simp; omega
  · rw [decide_eq_false h]; simp; omega
theorem putAll_same {l m : List Int} (h : ∀ x, x ∈ l ↔ x ∈ m) : putAll ltI l = putAll ltI m :=
  rises_uniq stoI _ _ (putAll_rises stoI _) (putAll_rises stoI _) fun x => by rw [putAll_mem stoI, putAll_mem stoI, h]
theorem frontE_mem {E : List (Int × Int)} {l : List Int} {x : Int} : x ∈ frontE E l E.length ↔ ∃ u, u ∈ l ∧ (u, x) ∈ E := by
  unfold frontE
  rw [List.take_length, List.mem_map]
  constructor
  · rintro ⟨e, h, rfl⟩
    obtain ⟨h1, h2⟩ := List.mem_filter.1 h
    exact ⟨e.1, (inB_iff _ _).1 h2, h1⟩
  · rintro ⟨u, h1, h2⟩
    exact ⟨(u, x), List.mem_filter.2 ⟨h2, (inB_iff _ _).2 h1⟩, rfl⟩
theorem frontR_put {O T R V : List Int} (hck : checkR O T R V = true) (back : Bool) {l : List Int} {n : Nat} (hno : O.length = n + 1) (hl : ∀ x ∈ l, 0 ≤ x ∧ x < n) :
    dedup (sortI (frontR (nxR back O T R V) l)) = putAll ltI (frontE (edgD back O T) l (edgD back O T).length) := by
  rw [sortI_by, once_putAll stoI]
  refine putAll_same fun x => ?_
  have hin := nxR_in hck back
  have hbd := edgD_bd (checkR_half hck).2.2.1 back
  have hn : O.length - 1 = n := by omega
  rw [frontE_mem]
  unfold frontR
  rw [List.mem_flatMap]
  constructor
  · rintro ⟨u, h1, h2⟩
    obtain ⟨u1, u2⟩ := hl u h1
    obtain ⟨x1, x2⟩ := hin u.toNat (by omega) x h2
    refine ⟨u, h1, ?_⟩
    have := (edgD_mem hck back u.toNat x.toNat (by omega) (by omega)).2 (by rwa [Int.toNat_of_nonneg x1])
    rwa [Int.toNat_of_nonneg x1, Int.toNat_of_nonneg u1] at this
  · rintro ⟨u, h1, h2⟩
    obtain ⟨u1, u2⟩ := hl u h1
    obtain ⟨_, _, x1, x2⟩ := hbd _ h2
    simp only at x1 x2
    refine ⟨u, h1, ?_⟩
    have := (edgD_mem hck back u.toNat x.toNat (by omega) (by omega)).1 (by rwa [Int.toNat_of_nonneg x1, Int.toNat_of_nonneg u1])
    rwa [Int.toNat_of_nonneg x1] at this
theorem nxR_small {O T R V : List Int} (hck : checkR O T R V = true) (back : Bool) {n k : Nat} (hno : O.length = n + 1) (hk : k < n) : (nxR back O T R V k).length ≤ n := by
  have hn : O.length - 1 = n := by omega
  have hr := row_rises8 hck back (u := k) (by omega)
  refine nodup_small (hr.imp fun h => ?_) fun x hx => ?_
  · intro e; subst e; unfold ltI at h; simp at h
  · have := nxR_in hck back k (by omega) x hx
    rw [hn] at this; exact this
theorem openC_zero {O T R V l : List Int} (h : openC (checkR O T R V) O l = 0) : checkR O T R V = true ∧ ∃ n : Nat, O.length = n + 1 ∧ ∀ x ∈ l, 0 ≤ x ∧ x < n := by
  have hck : checkR O T R V = true := by
    apply Classical.byContradiction; intro h2
    unfold openC at h; rw [if_neg h2] at h; omega
  have r := offB_parts (halfB_off (checkR_half hck).2.2.1)
  refine ⟨hck, O.length - 1, by omega, fun x hx => ?_⟩
  unfold openC at h
  rw [if_pos hck] at h
  have ha : l.all (fun x => decide (0 ≤ x) && decide (x < (O.length : Int) - 1)) = true := by
    apply Classical.byContradiction; intro h2
    rw [if_neg h2] at h; omega
  have := List.all_eq_true.1 ha x hx
  rw [Bool.and_eq_true, decide_eq_true_eq, decide_eq_true_eq] at this
  omega
end Go.Proofs.YthlmcfbadhidbaaGreat
/- A range over a function whose yields point to memory: what is yielded is told with a relation of the value and the world. -/
namespace Go.Proofs.YthlmcfbadhidbaaGreat
open Go Go.RowKit
/-- what speaks of no more than what lies below B -/
def FarFrom {β : Type} (B : Nat) (I : β → World → Prop) : Prop :=
  ∀ s Z W W', B ≤ Z.heap.size → Below B Z W → Below B Z W' → I s W → I s W'
theorem FarFrom.below {β : Type} {B : Nat} {I : β → World → Prop} (h : FarFrom B I) {s : β} {W W' : World} (hB : B ≤ W.heap.size) (hb : Below B W W') (hs : I s W) : I s W' := h s W W W' hB (Below.refl _ _) hb hs
theorem FarFrom.putObj {β : Type} {B : Nat} {I : β → World → Prop} (h : FarFrom B I) {s : β} {W : World} {l : Nat} {o : Obj} (o' : Obj) (hs : I s W) (hB : B ≤ l) (hl : W.heap[l]? = some o) : I s (W.putObj l o') :=
  h.below (by have := (Array.getElem?_eq_some_iff.1 hl).1; omega) ((Below.refl B W).grown (grownBy_putObj' W l o') (by have := (Array.getElem?_eq_some_iff.1 hl).1; omega) (fun k e => by cases e; exact hB)) hs
/-- an iterator's contract: each yield comes with A of the value and the world; the iterator may write what it has made -/
def SeqA {α : Type} (F : Fence) (n : Nat) (P : Program) (g : Nat) (lb : Array Value) (encs : α → Array Value) (A : α → World → Prop) (Kp : World → World → Prop) (S Sp : List α → Prop) (N : Nat) (w : World) : Prop :=
  ∀ (l : Nat) (J Jx : List α → World → Prop) (W : World), Below w.heap.size w W → FarFrom W.heap.size J → FarFrom W.heap.size Jx →
    (∀ pre x V, J pre V → A x V → pre.length < N → YieldAt F (n - 1) P l (encs x) V fun e V' =>
      (e = .returned (.bool true) ∧ J (pre ++ [x]) V' ∧ Kp V V') ∨ (e = .returned (.bool false) ∧ Jx (pre ++ [x]) V')) →
    J [] W → CallsIn F n P g (#[.func (.yield l) #[] #[]] ++ lb) W fun e V => (∃ v, e = .returned v) ∧ ((∃ xs, S xs ∧ J xs V) ∨ (∃ pre, Sp pre ∧ Jx pre V))
section
variable {F : Fence} {n : Nat} {P : Program} {w : World}
theorem wpIn_rangeFunc_told {α : Type} {g : Operand} {ps : Array Tmp} {assign body : Code} {Q : Exit → Act → World → Prop} {a : Act}
    (hro : F.round = none) (h1 : 1 ≤ n) {gf : Nat} {lb : Array Value} (hg : a.eval g = .func (.func gf) #[] lb) (hF : F.fn gf) (eg : ∀ args w, (callFunc gf args).run P w = .ok (.enter gf args) w)
    {encs : α → Array Value} {A : α → World → Prop} {Kp : World → World → Prop} {S Sp : List α → Prop} {N : Nat} {w0 : World} (hseq : SeqA F (n - 1) P gf lb encs A Kp S Sp N w0)
    (hKt : ∀ {X Y Z : World}, Kp X Y → Kp Y Z → Kp X Z) (hKb : ∀ (W : World) (l : Nat) (o o' : Obj), w.heap.size ≤ l → W.heap[l]? = some o → o.isCells = false → o.isWalk = false → Kp W (W.putObj l o')) (hb0 : Below w0.heap.size w0 w) (hps : ∀ x, (encs x).size = ps.size)
    (I : List α → World → Prop) (Ix : Code → List α → World → Prop) (hI : FarFrom w.heap.size I) (hIx : ∀ c, FarFrom w.heap.size (Ix c)) (hA : OwnFrom w.heap.size A) (h0 : I [] w) (a₁ : α → Act)
    (hassign : ∀ (l : Nat) (x : α) (W : World) (K : Act → World → Prop), K (a₁ x) W →
      assign.wpIn (F.inRound l) (n - 1 - 1) P (Exit.then K (fun _ _ _ => False)) { tmps := (ps.zip (encs x)).foldl (fun t (p, v) => t.setIfInBounds p v) a.tmps, defers := [] } W)
    (hbody : ∀ (l : Nat) (pre : List α) (x : α) (W : World), I pre W → A x W → pre.length < N → body.wpIn (F.inRound l) (n - 1 - 1) P (ownPostG w.heap.size Kp I Ix (pre ++ [x]) W) (a₁ x) W)
    (hdone : ∀ (D : Nat) (xs : List α) (W : World), w.heap.size ≤ D → S xs → I xs W → W.heap[D]? = some (.deferred (some [])) → Q .normal { a with defers := { target := .collected D, args := #[] } :: a.defers } W)
    (hstop : ∀ (D : Nat) (c : Code) (pre : List α) (W : World), w.heap.size ≤ D → Sp pre → Ix c pre W → W.heap[D]? = some (.deferred (some [])) → c.wpIn F n P Q { a with defers := { target := .collected D, args := #[] } :: a.defers } W) :
    (Code.rangeFunc g ps assign body).wpIn F n P Q a w := by
  refine wpIn_rangeFunc fun fn hfn => ?_
  rw [hro]
  have hB : w.heap.size ≤ w.heap.size + 1 := Nat.le_succ _
  obtain ⟨mk, hmk⟩ : ∃ mk : LoopState → Option Code → Loop, mk = fun st pe => { state := st, pending := pe, fn, tmps := a.tmps, params := ps, assign, body, defers := w.heap.size } := ⟨_, rfl⟩
  obtain ⟨V, hV⟩ : ∃ V, (w.alloc (.deferred (some []))).alloc (.loop (mk .ready none)) = V := ⟨_, rfl⟩
  have hVl : V.heap[w.heap.size + 1]? = some (.loop (mk .ready none)) := by
    have h := World.alloc_heap_new (w.alloc (.deferred (some []))) (.loop (mk .ready none))
    rw [World.size_alloc] at h
    rw [← hV]; exact h
  have hVd : V.heap[w.heap.size]? = some (.deferred (some [])) := by
    rw [← hV]; exact (Below.heap_alloc _ _ _ (by simp)).trans (World.alloc_heap_new w _)
  have hVb : Below w0.heap.size w0 V := by
    rw [← hV]; exact hb0.trans ((((Below.refl _ w).alloc (Nat.le_refl _) _).alloc (by simp) _).mono hb0.size)
  have hVs : w.heap.size ≤ V.heap.size := by have := (Array.getElem?_eq_some_iff.1 hVd).1; omega
  have hV0 : I [] V := by rw [← hV]; exact hI.below (Nat.le_refl _) (((Below.refl _ w).alloc (Nat.le_refl _) _).alloc (by simp) _) h0
  have lV : w.heap.size + 1 < V.heap.size := (Array.getElem?_eq_some_iff.1 hVl).1
  -- the two blocks of book-keeping lie below what the iterator makes
  have keep : ∀ {Z X Y : World} {k : Nat} {o : Obj}, Below V.heap.size Z X → Below V.heap.size Z Y → k < V.heap.size → X.heap[k]? = some o → Y.heap[k]? = some o := fun {Z X Y k o} h1 h2 hk hX => (h2.block k hk).trans ((h1.block k hk).symm.trans hX)
  refine ⟨w.heap.size + 1, [{ target := .collected w.heap.size, args := #[] }], V, { target := .fn (.func gf) lb, args := #[.func (.yield (w.heap.size + 1)) #[] #[]] }, V, gf, #[.func (.yield (w.heap.size + 1)) #[] #[]] ++ lb, V, ?_, ?_, ?_, ?_, fun _ => h1, ?_⟩
  · rw [← hV, hmk]; exact run_enterLoop_outer _ _ _ _ _
  · simp only [resolve, hg]; simp [go_sem]
  · intro f' hf'; simp [Target.leads] at hf'; subst hf'; exact hF
  · simp [invoke, go_sem, eg]
  refine (hseq (w.heap.size + 1)
    (fun pre W => I pre W ∧ W.heap[w.heap.size + 1]? = some (.loop (mk .ready none)) ∧ W.heap[w.heap.size]? = some (.deferred (some [])))
    (fun pre W => ∃ c, Ix c pre W ∧ W.heap[w.heap.size + 1]? = some (.loop (mk .done (some c))) ∧ W.heap[w.heap.size]? = some (.deferred (some []))) V hVb
    (fun s Z X Y hZ hx hy h => ⟨hI s Z X Y (Nat.le_trans hVs hZ) (hx.mono hVs) (hy.mono hVs) h.1, keep hx hy lV h.2.1, keep hx hy (by omega) h.2.2⟩)
    (fun s Z X Y hZ hx hy h => h.elim fun c h => ⟨c, hIx c s Z X Y (Nat.le_trans hVs hZ) (hx.mono hVs) (hy.mono hVs) h.1, keep hx hy lV h.2.1, keep hx hy (by omega) h.2.2⟩)
    ?_ ⟨hV0, hVl, hVd⟩).mono ?_
  · rintro pre x W ⟨hi, hl, hk⟩ hax hlen
    have hlt : w.heap.size + 1 < W.heap.size := (Array.getElem?_eq_some_iff.1 hl).1
    have hy := run_yield (P := P) (args := encs x) hl (by rw [hmk]; exact hps x)
    rw [hmk] at hy
    refine ⟨fn, _, assign, body, hy, roundIn_of_wpIn hfn (hassign _ x W _ ⟨_, run_beginRound hl (by rw [hmk]), ?_⟩)⟩
    have l2 : (W.putObj (w.heap.size + 1) (.loop { mk .ready none with state := .busy })).heap[w.heap.size + 1]? = some (.loop { mk .ready none with state := .busy }) := World.putObj_heap_same hlt
    have k2 : (W.putObj (w.heap.size + 1) (.loop { mk .ready none with state := .busy })).heap[w.heap.size]? = some (.deferred (some [])) := (World.putObj_heap_other (by omega)).trans hk
    have p2 : Kp W (W.putObj (w.heap.size + 1) (.loop { mk .ready none with state := .busy })) := hKb _ _ _ _ hB hl rfl rfl
    refine wpIn_mono (hbody _ pre x _ (hI.putObj _ hi hB hl) (hA.putObj _ hax hB hl rfl) hlen) ?_
    have fin : ∀ (jump : Option Code) (X : World), KeepsFrom w.heap.size (W.putObj (w.heap.size + 1) (.loop { mk .ready none with state := .busy })) X →
        (Instr.endRound (w.heap.size + 1) jump).run P X = .ok (.bool jump.isNone) (X.putObj (w.heap.size + 1) (.loop (mk (if jump.isNone then .ready else .done) jump))) ∧
        X.heap[w.heap.size + 1]? = some (.loop { mk .ready none with state := .busy }) ∧
        (X.putObj (w.heap.size + 1) (.loop (mk (if jump.isNone then .ready else .done) jump))).heap[w.heap.size + 1]? = some (.loop (mk (if jump.isNone then .ready else .done) jump)) ∧
        (X.putObj (w.heap.size + 1) (.loop (mk (if jump.isNone then .ready else .done) jump))).heap[w.heap.size]? = some (.deferred (some [])) := fun jump X hX => by
      have l3 := hX.same _ _ hB l2 rfl
      have hr := run_endRound (P := P) jump l3
      rw [hmk] at hr l3 ⊢
      exact ⟨hr, l3, World.putObj_heap_same (Array.getElem?_eq_some_iff.1 l3).1, (World.putObj_heap_other (by omega)).trans (hX.same _ _ (Nat.le_refl _) k2 rfl)⟩
    rintro e a3 X hp
    cases e with
    | normal =>
      obtain ⟨hX, hkp, hi3⟩ := hp
      obtain ⟨r1, r2, r3, r4⟩ := fin none X hX
      exact ⟨_, _, r1, .inl ⟨rfl, ⟨hI.putObj _ hi3 hB r2, r3, r4⟩, hKt (hKt p2 hkp) (hKb _ _ _ _ hB r2 rfl rfl)⟩⟩
    | ret =>
      obtain ⟨r1, r2, r3, r4⟩ := fin (some .ret) X hp.1
      exact ⟨_, _, r1, .inr ⟨rfl, .ret, (hIx _).putObj _ hp.2 hB r2, r3, r4⟩⟩
    | exit id =>
      obtain ⟨r1, r2, r3, r4⟩ := fin (some (.exit id)) X hp.1
      exact ⟨_, _, r1, .inr ⟨rfl, .exit id, (hIx _).putObj _ hp.2 hB r2, r3, r4⟩⟩
    | goto t =>
      obtain ⟨r1, r2, r3, r4⟩ := fin (some (.goto t)) X hp.1
      exact ⟨_, _, r1, .inr ⟨rfl, .goto t, (hIx _).putObj _ hp.2 hB r2, r3, r4⟩⟩
    | panic ch => exact hp.elim
    | outgrown => exact hp.elim
  · rintro e X ⟨⟨v, rfl⟩, (⟨xs, hS, hi, hl, hk⟩ | ⟨pre, hSp, c, hi, hl, hk⟩)⟩
    · have hr := run_endLoop (P := P) hl (by rw [hmk]; simp)
      rw [hmk] at hr
      exact ⟨none, _, hr, hdone _ xs _ (Nat.le_refl _) hS (hI.putObj _ hi hB hl) ((World.putObj_heap_other (by omega)).trans hk)⟩
    · have hr := run_endLoop (P := P) hl (by rw [hmk]; simp)
      rw [hmk] at hr
      exact ⟨some c, _, hr, hstop _ c pre _ (Nat.le_refl _) hSp ((hIx c).putObj _ hi hB hl) ((World.putObj_heap_other (by omega)).trans hk)⟩
end
/-- a world up to a block -/
def cutW (B : Nat) (w : World) : World := { w with heap := w.heap.extract 0 B }
theorem cutW_size {B : Nat} {w : World} (h : B ≤ w.heap.size) : (cutW B w).heap.size = B := by simp [cutW]; omega
theorem cutW_below {B : Nat} {w : World} (h : B ≤ w.heap.size) : Below B (cutW B w) w :=
  ⟨rfl, rfl, rfl, by rw [cutW_size h]; exact h, fun k hk => by
    show w.heap[k]? = (w.heap.extract 0 B)[k]?
    rw [Array.getElem?_extract]
    simp
    intro h2; omega⟩
/-- pieces that lie at B and behind, seen from the world up to B -/
theorem Sep.rebase {w0 w w' : World} {Γ : List Pc} {B : Nat} (S : Sep w0 w Γ) (h0 : w0.heap.size = B) (hB : B ≤ w'.heap.size) (hsame : ∀ p ∈ Γ, ∀ k, p.foot k → w'.heap[k]? = w.heap[k]?) : Sep (cutW B w') w' Γ :=
  ⟨by rw [Ext, cutW_size hB]; exact cutW_below hB, fun p hp => p.loc w w' (S.all p hp) (hsame p hp), fun p hp k hk => by rw [cutW_size hB, ← h0]; exact S.new p hp k hk, S.apart⟩
/-- pieces that lie below B speak of no more -/
theorem Sep.far {w0 w w' Z : World} {Γ : List Pc} {B : Nat} (S : Sep w0 w Γ) (h0 : w0.heap.size ≤ B) (hZ : B ≤ Z.heap.size) (h1 : Below B Z w) (h2 : Below B Z w') (hf : ∀ p ∈ Γ, ∀ k, p.foot k → k < B) : Sep w0 w' Γ :=
  ⟨⟨h2.os.trans (h1.os.symm.trans S.ext.os), h2.tape.trans (h1.tape.symm.trans S.ext.tape), h2.output.trans (h1.output.symm.trans S.ext.output), by have := h2.size; omega, fun k hk => (h2.block k (by omega)).trans ((h1.block k (by omega)).symm.trans (S.ext.block k hk))⟩,
    fun p hp => p.loc w w' (S.all p hp) fun k hk => (h2.block k (hf p hp k hk)).trans (h1.block k (hf p hp k hk)).symm, S.new, S.apart⟩
end Go.Proofs.YthlmcfbadhidbaaGreat
/- A row that rises: has it a number? -/
namespace Go.Proofs.YthlmcfbadhidbaaGreat
open Go Go.RowKit
theorem inB_take_succ (l : List Int) (x : Int) (k : Nat) (h : k < l.length) : inB (l.take (k + 1)) x = (inB (l.take k) x || (nth l k == x)) := by
  unfold inB
  rw [take_succ_nth l k h, List.any_append]; simp
end Go.Proofs.YthlmcfbadhidbaaGreat
/- What chapter 8's laws say, in plain words. -/
namespace Go.Proofs.YthlmcfbadhidbaaGreat
open Go Go.RowKit
section
variable {nx nb : Nat → List Int} {n s t : Nat} (h : Rev nx nb n) (hs : s < n) (ht : t < n)
include h hs ht in
theorem half_law : stepsN n (lev nx n s) (lev nb n t) ≤ n ∧ (0 ≤ lev nx n s t → lev nx n s t = 2 * (stepsN n (lev nx n s) (lev nb n t) : Int) ∨ lev nx n s t = 2 * (stepsN n (lev nx n s) (lev nb n t) : Int) - 1) := by
  have hl := lev_lt (nx := nx) hs ht
  by_cases h0 : 0 ≤ lev nx n s t
  · have h1 := steps_yes h hs ht h0 (n + 1) 0 (by omega) (by omega)
    unfold stepsN
    rw [h1]
    refine ⟨by omega, fun _ => by omega⟩
  · have h1 := steps_no h hs ht (by omega) (n + 1) 0 (by omega) (.inl rfl)
    unfold stepsN
    exact ⟨by omega, fun h => absurd h h0⟩
end
/-- the path, as numbers -/
def pathI (nx : Nat → List Int) (g : Nat → Int) (k u : Nat) : List Int := (pathL nx g k u).map fun x : Nat => (x : Int)
theorem pathI_len (nx : Nat → List Int) (g : Nat → Int) (k u : Nat) : (pathI nx g k u).length = k + 1 := by unfold pathI; rw [List.length_map, pathL_len]
theorem nth_map_nat (l : List Nat) (i : Nat) (h : i < l.length) : nth (l.map fun x : Nat => (x : Int)) i = ((nth l i : Nat) : Int) := by
  rw [nth_eq (by rw [List.length_map]; exact h), nth_eq h, List.getElem_map]
theorem pathI_nth (nx : Nat → List Int) (g : Nat → Int) (k u : Nat) {i : Nat} (h : i ≤ k) : nth (pathI nx g k u) i = ((nth (pathL nx g k u) i : Nat) : Int) := nth_map_nat _ i (by rw [pathL_len]; omega)
/-- what Path tells -/
def pathR (nx nb : Nat → List Int) (n s t : Nat) : List Int := if 0 ≤ lev nx n s t then pathI nx (lev nb n t) (lev nx n s t).toNat s else []
theorem rising_nodup {l : List Int} (h : l.Nodup) : (putAll ltI l).length = l.length := by
  have h1 := putAll_rises stoI l
  have h2 : (putAll ltI l).Nodup := List.Pairwise.imp (fun {a b} hab e => by subst e; have := stoI.irrefl a; rw [hab] at this; cases this) h1
  exact ((List.perm_ext_iff_of_nodup h2 h).2 fun x => putAll_mem stoI l x).length_eq
section
variable {nx nb : Nat → List Int} {n s t : Nat} (h : Rev nx nb n) (hin : InN nx n) (hs : s < n) (ht : t < n) (h0 : 0 ≤ lev nx n s t)
include h hs ht h0 in
theorem lev_nb : lev nb n t s = ((lev nx n s t).toNat : Nat) := by rw [← lev_rev h hs ht]; omega
include h hin hs ht h0
theorem path_law : pathR nx nb n s t = pathI nx (lev nb n t) (lev nx n s t).toNat s ∧ ((pathR nx nb n s t).length : Int) = lev nx n s t + 1 ∧ nth (pathR nx nb n s t) 0 = s ∧ nth (pathR nx nb n s t) (lev nx n s t).toNat = t ∧ (pathR nx nb n s t).Nodup := by
  have e : pathR nx nb n s t = pathI nx (lev nb n t) (lev nx n s t).toNat s := by unfold pathR; rw [if_pos h0]
  rw [e]
  refine ⟨rfl, by rw [pathI_len]; omega, ?_, ?_, ?_⟩
  · rw [pathI_nth _ _ _ _ (Nat.zero_le _), pathL_first]
  · rw [pathI_nth _ _ _ _ (Nat.le_refl _), pathL_last h ht hin hs (lev_nb h hs ht h0)]
  · unfold pathI
    exact List.Pairwise.map _ (fun a b hab e => hab (by exact_mod_cast e)) (pathL_nodup h ht hin hs (lev_nb h hs ht h0))
theorem path_at {i : Nat} (hi : i < (pathR nx nb n s t).length) : ∃ v : Nat, nth (pathR nx nb n s t) i = v ∧ v < n ∧ 0 ≤ lev nx n v t ∧ pathR nx nb n v t = (pathR nx nb n s t).drop i := by
  obtain ⟨e, hl, _, _, _⟩ := path_law h hin hs ht h0
  have hk : i ≤ (lev nx n s t).toNat := by omega
  rw [e]
  obtain ⟨g1, g2, g3⟩ := pathL_at h ht hin _ s hs (lev_nb h hs ht h0) i hk
  generalize hv : nth (pathL nx (lev nb n t) (lev nx n s t).toNat s) i = v at *
  refine ⟨v, by rw [pathI_nth _ _ _ _ hk, hv], g1, ?_, ?_⟩
  · rw [lev_rev h g1 ht, g2]; omega
  · have h1 : lev nx n v t = (((lev nx n s t).toNat - i : Nat) : Int) := by rw [lev_rev h g1 ht, g2]
    unfold pathR
    rw [if_pos (by rw [h1]; omega), h1]
    unfold pathI
    rw [Int.toNat_natCast, ← List.map_drop, g3]
theorem path_next {i : Nat} (hi : i + 1 < (pathR nx nb n s t).length) : nth (pathR nx nb n s t) (i + 1) ∈ nx (nth (pathR nx nb n s t) i).toNat ∧ 0 ≤ nth (pathR nx nb n s t) i ∧ nth (pathR nx nb n s t) i < n := by
  obtain ⟨e, hl, _, _, _⟩ := path_law h hin hs ht h0
  have hk : i < (lev nx n s t).toNat := by omega
  rw [e, pathI_nth _ _ _ _ (by omega), pathI_nth _ _ _ _ (by omega), Int.toNat_natCast]
  refine ⟨(pathL_next h ht hin hs (lev_nb h hs ht h0) hk).1, by omega, ?_⟩
  have := (pathL_at h ht hin _ s hs (lev_nb h hs ht h0) i (by omega)).1
  omega
/-- no lesser next place is as near -/
theorem less_law (hr : Rises ltI (nx s)) (h2 : 1 < (pathR nx nb n s t).length) {y : Int} (hy : y ∈ nx s) (hlt : y < nth (pathR nx nb n s t) 1) : 0 ≤ y ∧ y < n ∧ (0 ≤ lev nx n y.toNat t → ((pathR nx nb n s t).length : Int) - 1 ≤ lev nx n y.toNat t) := by
  obtain ⟨e, hl, _, _, _⟩ := path_law h hin hs ht h0
  obtain ⟨b1, b2⟩ := hin s hs y hy
  refine ⟨b1, b2, fun hy0 => ?_⟩
  obtain ⟨k, hk⟩ : ∃ k, (lev nx n s t).toNat = k + 1 := ⟨(lev nx n s t).toNat - 1, by omega⟩
  have hb := lev_nb h hs ht h0
  rw [hk] at hb
  obtain ⟨x, g1, g2, g3, g4, g5, g6⟩ := stepL_is h ht hin hs hb
  have hx : nth (pathR nx nb n s t) 1 = x := by
    rw [e, pathI_nth _ _ _ _ (by omega), hk, (pathL_next h ht hin hs hb (i := 0) (by omega)).2, pathL_first, g5]
    omega
  rw [hx] at hlt
  have h3 := find_less hr g1 hy hlt
  have h4 : lev nb n t y.toNat ≠ lev nb n t s - 1 := by simpa using h3
  have h5 := lev_rev h (s := y.toNat) (by omega) ht
  have h6 : 0 ≤ lev nx n s t ∧ lev nx n s t ≤ 1 + lev nx n y.toNat t := by
    have hw := lev_wk (s := y.toNat) (by omega) ht hy0
    have h7 : wk nx n s (1 + (lev nx n y.toNat t).toNat) t = true := by
      refine wk_trans (v := y.toNat) ?_ _ t ht hw
      exact wk_succ.2 ⟨s, hs, wk_zero.2 rfl, by rw [Int.toNat_of_nonneg b1]; exact hy⟩
    have := lev_le hs ht h7
    omega
  omega
end
/-- a row of places is a walk -/
def walkB (ck : Bool) (O T l : List Int) : Bool := decide (0 < l.length) && outB ck O (nth l 0) && (List.range (l.length - 1)).all fun i => hasB ck O T (nth l i) (nth l (i + 1))
theorem walk_path {O T R V : List Int} (hck : checkR O T R V = true) {s t : Nat} (hs : s < O.length - 1) (ht : t < O.length - 1) (h0 : 0 ≤ lev (rowL O T) (O.length - 1) s t) : walkB true O T (pathR (rowL O T) (rowL R V) (O.length - 1) s t) = true := by
  have hR : Rev (rowL O T) (rowL R V) (O.length - 1) := nxR_rev hck false
  have hin : InN (rowL O T) (O.length - 1) := nxR_in hck false
  obtain ⟨_, hl, h1, _, _⟩ := path_law hR hin hs ht h0
  have hN := fun i hi => path_next hR hin hs ht h0 (i := i) hi
  generalize pathR (rowL O T) (rowL R V) (O.length - 1) s t = P at *
  unfold walkB
  rw [Bool.and_eq_true, Bool.and_eq_true, List.all_eq_true]
  refine ⟨⟨by simp; omega, by unfold outB; rw [h1]; simp; omega⟩, fun i hi => ?_⟩
  rw [List.mem_range] at hi
  obtain ⟨g1, g2, g3⟩ := hN i (by omega)
  have hb : outB true O (nth P i) = true := by unfold outB; simp; omega
  unfold hasB
  rw [hb, outL_yes hb, Bool.true_and]
  exact (inB_iff _ _).2 g1
end Go.Proofs.YthlmcfbadhidbaaGreat
/- What Path's two loops keep, in plain words. -/
namespace Go.Proofs.YthlmcfbadhidbaaGreat
open Go Go.RowKit
section
variable {nx nb : Nat → List Int} {n s t : Nat} (h : Rev nx nb n) (hs : s < n) (ht : t < n)
include hs in
theorem cut_all {k : Nat} (hF : IsFront (lev nx n s) n ((k + 1 : Nat) : Int) []) : cutL (lev nx n s) n k = (List.range n).map fun v => lev nx n s v := by
  have hno : hasL n (lev nx n s) ((k + 1 : Nat) : Int) = false := by
    cases e : hasL n (lev nx n s) ((k + 1 : Nat) : Int) with
    | false => rfl
    | true => exact absurd ((front_has hF).1 e) (by simp)
  unfold cutL
  apply List.map_congr_left
  intro v hv
  rw [List.mem_range] at hv
  unfold cut
  rcases lev_cases (nx := nx) hs hv with ⟨h1, _⟩ | ⟨j, hj, h1, _⟩
  · rw [if_neg (by omega), h1]
  · by_cases hjk : j ≤ k
    · rw [if_pos (by omega)]
    · have := has_below hs (k := j) (j := k + 1) (by omega) (hasL_iff.2 ⟨v, hv, h1⟩)
      rw [hno] at this
      cases this
end
theorem levL_nth {f : Nat → Int} {n v : Nat} (hv : v < n) : nth ((List.range n).map fun v => f v) v = f v := by
  rw [nth_eq (by simpa using hv)]; simp
theorem find_at {p : Int → Bool} {l : List Int} {j : Nat} (hj : j < l.length) (h : (l.take j).find? p = none) (hp : p (nth l j) = true) : l.find? p = some (nth l j) := by
  have e : l = l.take j ++ (nth l j :: l.drop (j + 1)) := by
    rw [nth_eq hj, ← List.drop_eq_getElem_cons hj, List.take_append_drop]
  generalize nth l j = x at *
  rw [e, List.find?_append, h, List.find?_cons_of_pos hp]; rfl
theorem find_step {p : Int → Bool} {l : List Int} {j : Nat} (hj : j < l.length) (h : (l.take j).find? p = none) (hp : p (nth l j) = false) : (l.take (j + 1)).find? p = none := by
  rw [take_succ_nth l j hj, List.find?_append, h, List.find?_cons_of_neg (by simp [hp])]; rfl
section
variable {nx nb : Nat → List Int} {n s t : Nat} (h : Rev nx nb n) (hin : InN nx n) (hs : s < n) (ht : t < n)
include h hin hs ht
/-- a step of the walk -/
theorem walk_step {k : Nat} (hk : lev nb n t s = k) {i : Nat} (hi : i < k) : ∃ a : Nat, nth (pathI nx (lev nb n t) k s) i = a ∧ a < n ∧ lev nb n t a = ((k - i : Nat) : Int) ∧
    (∃ x, (nx a).find? (fun x => lev nb n t x.toNat == ((k - i : Nat) : Int) - 1) = some x) ∧
    ∀ x, (nx a).find? (fun x => lev nb n t x.toNat == ((k - i : Nat) : Int) - 1) = some x → nth (pathI nx (lev nb n t) k s) (i + 1) = x ∧ (pathI nx (lev nb n t) k s).take (i + 2) = (pathI nx (lev nb n t) k s).take (i + 1) ++ [x] := by
  obtain ⟨g1, g2, g3⟩ := pathL_at h ht hin k s hs hk i (by omega)
  have g4 := (pathL_next h ht hin hs hk hi).2
  have e1 := pathI_nth nx (lev nb n t) k s (i := i) (by omega)
  have e2 := pathI_nth nx (lev nb n t) k s (i := i + 1) (by omega)
  have e3 := take_succ_nth (pathI nx (lev nb n t) k s) (i + 1) (by rw [pathI_len]; omega)
  generalize nth (pathL nx (lev nb n t) k s) i = a at *
  obtain ⟨j, hj⟩ : ∃ j, k - i = j + 1 := ⟨k - i - 1, by omega⟩
  obtain ⟨y, q1, q2, q3, q4, q5, q6⟩ := stepL_is h ht hin g1 (by rw [g2, hj])
  rw [g2] at q1
  refine ⟨a, e1, g1, g2, ⟨y, q1⟩, fun x hx => ?_⟩
  rw [q1] at hx
  obtain rfl : y = x := by injection hx
  have e4 : nth (pathI nx (lev nb n t) k s) (i + 1) = y := by rw [e2, g4, q5]; omega
  exact ⟨e4, by rw [show i + 2 = i + 1 + 1 by omega, e3, e4]⟩
end
end Go.Proofs.YthlmcfbadhidbaaGreat
/- The program's levels (chapter 7): fronts, the iterator's making; what it keeps. -/
namespace Go.Proofs.YthlmcfbadhidbaaGreat
open Go Go.RowKit
/-- what a round keeps: what lay below n₀, the iterator's boxes, and each row of cells from B on -/
structure KpF (n₀ B b1 b2 b3 : Nat) (W W' : World) : Prop where
  low : Below n₀ W W'
  x1 : W'.heap[b1]? = W.heap[b1]?
  x2 : W'.heap[b2]? = W.heap[b2]?
  x3 : W'.heap[b3]? = W.heap[b3]?
  up : ∀ (k : Nat) (o : Obj), B ≤ k → W.heap[k]? = some o → o.isCells = true → W'.heap[k]? = some o
theorem KpF.trans {n₀ B b1 b2 b3 : Nat} {X Y Z : World} (h : KpF n₀ B b1 b2 b3 X Y) (k : KpF n₀ B b1 b2 b3 Y Z) : KpF n₀ B b1 b2 b3 X Z :=
  ⟨h.low.trans k.low, k.x1.trans h.x1, k.x2.trans h.x2, k.x3.trans h.x3, fun i o hB h1 h2 => k.up i o hB (h.up i o hB h1 h2) h2⟩
/-- what is yielded -/
structure Yl where
  k : Nat
  F : List Int
  q : Option Addr
  c : Nat
abbrev YlOf (nx : Nat → List Int) (n s : Nat) := { x : Yl // IsFront (lev nx n s) n x.k x.F ∧ 0 < x.F.length }
def ylA {nx : Nat → List Int} {n s : Nat} (B : Nat) (x : YlOf nx n s) (W : World) : Prop := Rd W 1 x.1.q x.1.F.length (encI x.1.F) ∧ B ≤ (adr x.1.q 0).block
def ylE {nx : Nat → List Int} {n s : Nat} (x : YlOf nx n s) : Array Value := #[.int .i64 x.1.k, .slice x.1.q x.1.F.length x.1.c]
def ylS {nx : Nat → List Int} {n s : Nat} (xs : List (YlOf nx n s)) : Prop := xs.map (·.1.k) = List.range xs.length ∧ hasL n (lev nx n s) xs.length = false
/-- which places are seen -/
def seenL (X l : List Int) (n : Nat) : List Value := (List.range n).map fun v => .bool (decide (0 ≤ nth X v) || decide ((v : Int) ∈ l))
theorem seenL_len (X l : List Int) (n : Nat) : (seenL X l n).length = n := by simp [seenL]
theorem seenL_at {X l : List Int} {n v : Nat} (h : v < n) : (seenL X l n)[v]? = some (.bool (decide (0 ≤ nth X v) || decide ((v : Int) ∈ l))) := by
  simp [seenL, h]
theorem seenL_set {X l : List Int} {n v : Nat} (_ : v < n) : (seenL X l n).set v (.bool true) = seenL X (l ++ [(v : Int)]) n := by
  apply List.ext_getElem
  · simp [seenL]
  · intro j h1 h2
    have hj : j < n := by simpa [seenL] using h2
    simp only [seenL, List.getElem_set, List.getElem_map, List.getElem_range]
    by_cases e : v = j
    · subst e; simp
    · rw [if_neg e]
      have : ((j : Int) ∈ l ++ [(v : Int)]) ↔ (j : Int) ∈ l := by
        rw [List.mem_append, List.mem_singleton]
        constructor
        · rintro (h | h)
          · exact h
          · omega
        · exact .inl
      simp only [this]
theorem seenL_next {nx : Nat → List Int} {n s k : Nat} {L : List Int} (hL : IsFront (lev nx n s) n ((k + 1 : Nat) : Int) L) : seenL (cutL (lev nx n s) n k) L n = seenL (cutL (lev nx n s) n (k + 1 : Nat)) [] n := by
  unfold seenL
  apply List.map_congr_left
  intro v hv
  rw [List.mem_range] at hv
  rw [cutL_nth hv, cutL_nth hv]
  congr 1
  rw [Bool.eq_iff_iff]
  simp only [Bool.or_eq_true, decide_eq_true_eq, cut_ge, List.not_mem_nil, or_false]
  rw [hL.2]
  simp
  omega
theorem seenL_0 {nx : Nat → List Int} {n s : Nat} (hs : s < n) : (List.replicate n (Value.bool false)).set s (.bool true) = seenL (cutL (lev nx n s) n (0 : Nat)) [] n := by
  apply List.ext_getElem
  · simp [seenL]
  · intro j h1 h2
    have hj : j < n := by simpa [seenL] using h2
    simp only [seenL, List.getElem_set, List.getElem_map, List.getElem_range, List.getElem_replicate]
    rw [cutL_nth hj]
    have h0 := (lev_ok nx n s hs).zero j hj
    by_cases e : s = j
    · rw [if_pos e]
      have : 0 ≤ cut (lev nx n s) ((0 : Nat) : Int) j := cut_ge.2 (by have := h0.2 e.symm; omega)
      simpa using this
    · rw [if_neg e]
      have : ¬ 0 ≤ cut (lev nx n s) ((0 : Nat) : Int) j := fun h => by
        have h1 := cut_ge.1 h
        exact e (h0.1 (by omega)).symm
      simpa using this
end Go.Proofs.YthlmcfbadhidbaaGreat
/- A ball's places: the fronts up to a radius, sorted. -/
namespace Go.Proofs.YthlmcfbadhidbaaGreat
open Go Go.RowKit
/-- what has been gone through -/
def ballP {nx : Nat → List Int} {n s : Nat} (xs : List (YlOf nx n s)) : List Int := xs.flatMap fun x => x.1.F
theorem ballP_snoc {nx : Nat → List Int} {n s : Nat} (xs : List (YlOf nx n s)) (x : YlOf nx n s) : ballP (xs ++ [x]) = ballP xs ++ x.1.F := by simp [ballP]
theorem ballP_mem {nx : Nat → List Int} {n s : Nat} {xs : List (YlOf nx n s)} {v : Int} : v ∈ ballP xs ↔ 0 ≤ v ∧ v < n ∧ ∃ x ∈ xs, lev nx n s v.toNat = x.1.k := by
  unfold ballP
  rw [List.mem_flatMap]
  constructor
  · rintro ⟨x, hx, hv⟩
    have := (x.2.1.2 v).1 hv
    exact ⟨this.1, this.2.1, x, hx, this.2.2⟩
  · rintro ⟨h1, h2, x, hx, h3⟩
    exact ⟨x, hx, (x.2.1.2 v).2 ⟨h1, h2, h3⟩⟩
theorem ballP_nodup {nx : Nat → List Int} {n s : Nat} {xs : List (YlOf nx n s)} (h : (xs.map (·.1.k)).Nodup) : (ballP xs).Nodup := by
  induction xs with
  | nil => exact List.nodup_nil
  | cons x xs ih =>
    rw [List.map_cons, List.nodup_cons] at h
    show (x.1.F ++ ballP xs).Nodup
    rw [List.nodup_append]
    refine ⟨x.2.1.1, ih h.2, fun a ha b hb e => ?_⟩
    subst e
    have h1 := (x.2.1.2 a).1 ha
    obtain ⟨_, _, y, hy, h2⟩ := ballP_mem.1 hb
    exact h.1 (List.mem_map.2 ⟨y, hy, by have := h1.2.2; omega⟩)
theorem ballT_rises (A : List Int) (rad : Int) (k : Nat) : Rises ltI (ballT A rad k) := by
  unfold ballT
  have h : (List.range k).Pairwise (· < ·) := List.pairwise_lt_range
  refine List.Pairwise.map _ ?_ (h.filter _)
  intro a b hab
  simp only [ltI, decide_eq_true_eq]; omega
theorem ballT_mem {A : List Int} {rad : Int} {k : Nat} {v : Int} : v ∈ ballT A rad k ↔ 0 ≤ v ∧ v < k ∧ 0 ≤ nth A v.toNat ∧ nth A v.toNat ≤ rad := by
  unfold ballT
  rw [List.mem_map]
  constructor
  · rintro ⟨u, hu, rfl⟩
    rw [List.mem_filter, List.mem_range, Bool.and_eq_true, decide_eq_true_eq, decide_eq_true_eq] at hu
    exact ⟨by omega, by omega, by simpa using hu.2.1, by simpa using hu.2.2⟩
  · rintro ⟨h1, h2, h3, h4⟩
    refine ⟨v.toNat, ?_, by omega⟩
    rw [List.mem_filter, List.mem_range, Bool.and_eq_true, decide_eq_true_eq, decide_eq_true_eq]
    exact ⟨by omega, h3, h4⟩
/-- the fronts of levels 0 to m - 1, sorted, are the ball, where no level that is left out is within -/
theorem ball_sort {nx : Nat → List Int} {n s m : Nat} {rad : Int} {xs : List (YlOf nx n s)} (_ : s < n) (hk : xs.map (·.1.k) = List.range m) (h1 : ∀ x ∈ xs, (x.1.k : Int) ≤ rad) (h2 : ∀ v, v < n → 0 ≤ lev nx n s v → lev nx n s v ≤ rad → lev nx n s v < m) :
    sortI (ballP xs) = ballT ((List.range n).map fun v => lev nx n s v) rad n := by
  refine rises_uniq stoI _ _ (sortI_rises (ballP_nodup (by rw [hk]; exact List.nodup_range))) (ballT_rises _ _ _) fun v => ?_
  rw [sortI_mem, ballP_mem, ballT_mem]
  constructor
  · rintro ⟨a, b, x, hx, hl⟩
    refine ⟨a, b, ?_⟩
    rw [levL_nth (by omega)]
    have := h1 x hx
    omega
  · rintro ⟨a, b, c, d⟩
    rw [levL_nth (by omega)] at c d
    refine ⟨a, b, ?_⟩
    have h3 := h2 v.toNat (by omega) c d
    have h4 : (lev nx n s v.toNat).toNat ∈ xs.map (·.1.k) := by rw [hk, List.mem_range]; omega
    obtain ⟨x, hx, he⟩ := List.mem_map.1 h4
    exact ⟨x, hx, by omega⟩
theorem ballP_len {nx : Nat → List Int} {n s : Nat} (xs : List (YlOf nx n s)) : (ballP xs).length ≤ xs.length * n := by
  induction xs with
  | nil => simp [ballP]
  | cons x xs ih =>
    show (x.1.F ++ ballP xs).length ≤ _
    have h : x.1.F.length ≤ n := nodup_small x.2.1.1 fun v hv => ⟨((x.2.1.2 v).1 hv).1, ((x.2.1.2 v).1 hv).2.1⟩
    rw [List.length_append, List.length_cons, Nat.add_mul]; omega
/-- all fronts were within -/
theorem ball_done {nx : Nat → List Int} {n s : Nat} {rad : Int} {ys : List (YlOf nx n s)} (hs : s < n) (hy : ylS ys) (h1 : ∀ x ∈ ys, (x.1.k : Int) ≤ rad) : sortI (ballP ys) = ballT ((List.range n).map fun v => lev nx n s v) rad n := by
  refine ball_sort hs hy.1 h1 fun v hv h2 _ => ?_
  rcases lev_cases (nx := nx) hs hv with ⟨h3, _⟩ | ⟨j, hj, h3, _⟩
  · omega
  · by_cases hjm : j < ys.length
    · omega
    · have := has_below hs (k := j) (j := ys.length) (by omega) (hasL_iff.2 ⟨v, hv, h3⟩)
      rw [hy.2] at this; cases this
/-- a front was not within -/
theorem ball_stop {nx : Nat → List Int} {n s : Nat} {rad : Int} {ys : List (YlOf nx n s)} {x : YlOf nx n s} (hs : s < n) (hy : (ys ++ [x]).map (·.1.k) = List.range (ys ++ [x]).length) (h1 : ∀ x ∈ ys, (x.1.k : Int) ≤ rad) (hx : rad < (x.1.k : Int)) : sortI (ballP ys) = ballT ((List.range n).map fun v => lev nx n s v) rad n := by
  rw [List.map_append, List.length_append, List.length_singleton, List.range_succ] at hy
  obtain ⟨h3, h4⟩ := List.append_inj' hy (by simp)
  simp at h4
  exact ball_sort hs h3 h1 fun v hv h5 h6 => by omega
theorem ball_len {nx : Nat → List Int} {n s : Nat} {rad : Int} {ys : List (YlOf nx n s)} (h : sortI (ballP ys) = ballT ((List.range n).map fun v => lev nx n s v) rad n) : (ballP ys).length ≤ n := by
  have e := congrArg List.length h
  rw [sortI_len] at e
  rw [e]; exact ballT_len _ _ _
end Go.Proofs.YthlmcfbadhidbaaGreat
/- The laws of chapter 7, in plain Lean. -/
namespace Go.Proofs.YthlmcfbadhidbaaGreat
open Go Go.RowKit
/-- no further than by way of another place -/
theorem lev_tri {nx nb : Nat → List Int} {n u v w : Nat} (h : Rev nx nb n) (hu : u < n) (hv : v < n) (hw : w < n) (h1 : 0 ≤ lev nx n u v) (h2 : 0 ≤ lev nx n v w) :
    0 ≤ lev nx n u w ∧ lev nx n u w ≤ lev nx n u v + lev nx n v w := by
  have e := lev_rev h hv hw
  have := lev_over h hu hw hv h1 (by rw [← e]; exact h2)
  rw [← e] at this; exact this
theorem ball_law {O T R V : List Int} (hck : checkR O T R V = true) (back : Bool) {n a : Nat} {r : Int} (hno : O.length = n + 1) (ha : a < n) (hr : 1 ≤ r) :
    openC true O (ballV true back O T R V a (r - 1)) = 0 ∧ (ballV true back O T R V a (r - 1)).length ≤ n ∧ putAll ltI (ballV true back O T R V a (r - 1) ++ frontV true back O T (ballV true back O T R V a (r - 1))) = ballV true back O T R V a r := by
  have hl : levC true O a = 0 := by unfold levC; rw [if_pos rfl, if_pos (by omega)]
  have e1 : levR true back O T R V a = (List.range n).map fun v => lev (nxR back O T R V) n a v := by
    unfold levR; rw [if_pos hl, hno]; rfl
  have hll : ((List.range n).map fun v => lev (nxR back O T R V) n a v).length = n := by simp
  have e2 : ∀ rad : Int, 0 ≤ rad → ballV true back O T R V a rad = ballT ((List.range n).map fun v => lev (nxR back O T R V) n a v) rad n := fun rad h => by
    unfold ballV
    rw [if_pos (by unfold ballC; rw [if_pos hl, if_neg (by omega)]), e1, hll]
  have hb : ∀ x ∈ ballT ((List.range n).map fun v => lev (nxR back O T R V) n a v) (r - 1) n, 0 ≤ x ∧ x < n := fun x hx => by
    have := ballT_mem.1 hx; omega
  rw [e2 _ (by omega), e2 _ (by omega)]
  have ho : openC true O (ballT ((List.range n).map fun v => lev (nxR back O T R V) n a v) (r - 1) n) = 0 := by
    unfold openC
    rw [if_pos rfl, if_pos]
    rw [List.all_eq_true]
    intro x hx
    have := hb x hx
    rw [Bool.and_eq_true, decide_eq_true_eq, decide_eq_true_eq]; omega
  have lo := lev_ok (nxR back O T R V) n a ha
  have hin := nxR_in hck back
  have hn : O.length - 1 = n := by omega
  rw [hn] at hin
  refine ⟨ho, ballT_len _ _ _, ?_⟩
  refine rises_uniq stoI _ _ (putAll_rises stoI _) (ballT_rises _ _ _) fun x => ?_
  unfold frontV
  rw [if_pos ho, putAll_mem stoI, List.mem_append, putAll_mem stoI, frontE_mem]
  have hbd := edgD_bd (checkR_half hck).2.2.1 back
  have hem := edgD_mem hck back
  rw [hn] at hbd hem
  constructor
  · rintro (h | ⟨u, h1, h2⟩)
    · have := ballT_mem.1 h
      exact ballT_mem.2 ⟨this.1, this.2.1, this.2.2.1, by omega⟩
    · obtain ⟨u1, u2, u3, u4⟩ := ballT_mem.1 h1
      obtain ⟨_, _, x1, x2⟩ := hbd _ h2
      simp only at x1 x2
      rw [levL_nth (by omega)] at u3 u4
      have h3 := (hem u.toNat x.toNat (by omega) (by omega)).1 (by rwa [Int.toNat_of_nonneg x1, Int.toNat_of_nonneg u1])
      have h4 := lo.next u.toNat x.toNat (by omega) (by omega) h3 u3
      refine ballT_mem.2 ⟨x1, x2, ?_⟩
      rw [levL_nth (by omega)]
      omega
  · intro h
    obtain ⟨x1, x2, x3, x4⟩ := ballT_mem.1 h
    rw [levL_nth (by omega)] at x3 x4
    by_cases hx : lev (nxR back O T R V) n a x.toNat ≤ r - 1
    · exact .inl (ballT_mem.2 ⟨x1, x2, by rw [levL_nth (by omega)]; exact ⟨x3, hx⟩⟩)
    · obtain ⟨u, hu, h1, h2⟩ := lo.pred x.toNat (by omega) (by omega)
      refine .inr ⟨u, ballT_mem.2 ⟨by omega, by omega, ?_⟩, ?_⟩
      · rw [Int.toNat_natCast, levL_nth hu]; omega
      · have := (hem u x.toNat hu (by omega)).2 h2
        rwa [Int.toNat_of_nonneg x1] at this
theorem front_small {O T R V l : List Int} (hck : checkR O T R V = true) (back : Bool) {n : Nat} (hno : O.length = n + 1) : (frontV true back O T l).length ≤ n := by
  unfold frontV
  by_cases h : openC true O l = 0
  · rw [if_pos h]
    refine nodup_small ((putAll_rises stoI _).imp fun h => ?_) fun x hx => ?_
    · intro e; subst e; unfold ltI at h; simp at h
    · rw [putAll_mem stoI, frontE_mem] at hx
      obtain ⟨u, _, h2⟩ := hx
      have := edgD_bd (checkR_half hck).2.2.1 back _ h2
      simp only at this
      omega
  · rw [if_neg h]; exact Nat.zero_le _
/-- which places have one of the level below, as far as ways are gone through -/
def belowB (A : List Int) (E : List (Int × Int)) (i v : Nat) : Bool := (E.take i).any fun e => decide (e.2 = v) && (decide (0 ≤ nth A e.1.toNat) && decide (nth A e.2.toNat = nth A e.1.toNat + 1))
def belowL (A : List Int) (E : List (Int × Int)) (n i : Nat) : List Value := (List.range n).map fun v => .bool (belowB A E i v)
theorem belowL_len (A : List Int) (E : List (Int × Int)) (n i : Nat) : (belowL A E n i).length = n := by simp [belowL]
theorem belowL_0 (A : List Int) (E : List (Int × Int)) (n : Nat) : belowL A E n 0 = List.replicate n (.bool false) := by
  apply List.ext_getElem
  · simp [belowL]
  · intro j h1 h2; simp [belowL, belowB]
theorem belowB_step {A : List Int} {E : List (Int × Int)} {i v : Nat} (h : i < E.length) : belowB A E (i + 1) v = (belowB A E i v || (decide ((nth E i).2 = v) && (decide (0 ≤ nth A (nth E i).1.toNat) && decide (nth A (nth E i).2.toNat = nth A (nth E i).1.toNat + 1)))) := by
  unfold belowB
  rw [take_succ_nth E i h, List.any_append]
  simp
theorem belowL_yes {A : List Int} {E : List (Int × Int)} {n i b : Nat} (h : i < E.length) (hb : (nth E i).2 = b) (h1 : 0 ≤ nth A (nth E i).1.toNat) (h2 : nth A b = nth A (nth E i).1.toNat + 1) : (belowL A E n i).set b (.bool true) = belowL A E n (i + 1) := by
  apply List.ext_getElem
  · simp [belowL]
  · intro v k1 k2
    have e : belowB A E (i + 1) v = (belowB A E i v || decide (b = v)) := by
      rw [belowB_step h, hb, Int.toNat_natCast, decide_eq_true h1, decide_eq_true h2, Bool.true_and, Bool.and_true]
      congr 1
      rw [Bool.eq_iff_iff, decide_eq_true_eq, decide_eq_true_eq]
      omega
    rw [List.getElem_set]
    simp only [belowL, List.getElem_map, List.getElem_range, e]
    by_cases hbv : b = v
    · rw [if_pos hbv, decide_eq_true hbv, Bool.or_true]
    · rw [if_neg hbv, decide_eq_false hbv, Bool.or_false]
theorem belowL_no {A : List Int} {E : List (Int × Int)} {n i : Nat} (h : i < E.length) (h1 : ¬ (0 ≤ nth A (nth E i).1.toNat ∧ nth A (nth E i).2.toNat = nth A (nth E i).1.toNat + 1)) : belowL A E n (i + 1) = belowL A E n i := by
  unfold belowL
  apply List.map_congr_left
  intro v hv
  rw [belowB_step h]
  have : (decide (0 ≤ nth A (nth E i).1.toNat) && decide (nth A (nth E i).2.toNat = nth A (nth E i).1.toNat + 1)) = false := by
    rw [Bool.and_eq_false_iff, decide_eq_false_iff_not, decide_eq_false_iff_not]
    by_cases h0 : 0 ≤ nth A (nth E i).1.toNat
    · exact .inr fun h => h1 ⟨h0, h⟩
    · exact .inl h0
  rw [this, Bool.and_false, Bool.or_false]
theorem belowL_nth {A : List Int} {E : List (Int × Int)} {n i v : Nat} (hv : v < n) : (belowL A E n i)[v]? = some (.bool (belowB A E i v)) := by
  simp [belowL, hv]
/-- ways lead at most one level further; each place of a level above 0 has one of the level below -/
theorem steps_law {O T R V : List Int} (hck : checkR O T R V = true) {n a : Nat} (hno : O.length = n + 1) (ha : a < n) {A : List Int} (hA : A = (List.range n).map fun v => lev (rowL O T) n a v) :
    (∀ i, i < (pairs O T).length → 0 ≤ (nth (pairs O T) i).1 ∧ (nth (pairs O T) i).1 < n ∧ 0 ≤ (nth (pairs O T) i).2 ∧ (nth (pairs O T) i).2 < n ∧ (0 ≤ nth A (nth (pairs O T) i).1.toNat → 0 ≤ nth A (nth (pairs O T) i).2.toNat ∧ nth A (nth (pairs O T) i).2.toNat ≤ nth A (nth (pairs O T) i).1.toNat + 1)) ∧
    (∀ v, v < n → -1 ≤ nth A v ∧ nth A v < n ∧ (0 < nth A v → belowB A (pairs O T) (pairs O T).length v = true) ∧ (nth A v = 0 ↔ v = a)) := by
  have lo := lev_ok (rowL O T) n a ha
  have hbd := edgD_bd (checkR_half hck).2.2.1 false
  have hem := edgD_mem hck false
  have hn : O.length - 1 = n := by omega
  rw [hn] at hbd hem
  have hnx : nxR false O T R V = rowL O T := rfl
  have hed : edgD false O T = pairs O T := rfl
  rw [hnx, hed] at hem
  rw [hed] at hbd
  have hAt : ∀ v, v < n → nth A v = lev (rowL O T) n a v := fun v hv => by rw [hA]; exact levL_nth hv
  constructor
  · intro i hi
    have hm := nth_mem hi
    obtain ⟨b1, b2, b3, b4⟩ := hbd _ hm
    generalize nth (pairs O T) i = e at *
    refine ⟨b1, b2, b3, b4, ?_⟩
    rw [hAt _ (by omega), hAt _ (by omega)]
    refine lo.next _ _ (by omega) (by omega) ?_
    refine (hem e.1.toNat e.2.toNat (by omega) (by omega)).1 ?_
    rwa [Int.toNat_of_nonneg b1, Int.toNat_of_nonneg b3]
  · intro v hv
    rw [hAt v hv]
    refine ⟨lo.ge v hv, lev_lt ha hv, fun h => ?_, lo.zero v hv⟩
    obtain ⟨u, hu, h1, h2⟩ := lo.pred v hv h
    unfold belowB
    rw [List.take_length, List.any_eq_true]
    refine ⟨_, (hem u v hu hv).2 h2, ?_⟩
    have e : ((u : Int), (v : Int)).1.toNat = u := Int.toNat_natCast u
    have e2 : ((u : Int), (v : Int)).2.toNat = v := Int.toNat_natCast v
    rw [e, e2, hAt u hu, hAt v hv, Bool.and_eq_true, Bool.and_eq_true, decide_eq_true_eq, decide_eq_true_eq, decide_eq_true_eq]
    exact ⟨rfl, by omega, by omega⟩
end Go.Proofs.YthlmcfbadhidbaaGreat
/- The search of a hub, level by level (chapter 12), in plain Lean. -/
namespace Go.Proofs.YthlmcfbadhidbaaGreat
open Go Go.RowKit
/-- one place is told of: it is seen, and stands ahead if it was not -/
def pushW (s : List Bool × List Int) (w : Int) : List Bool × List Int := if nth s.1 w.toNat = true then s else (s.1.set w.toNat true, s.2 ++ [w])
def rowW (s : List Bool × List Int) (l : List Int) : List Bool × List Int := l.foldl pushW s
theorem snoc_ind {α : Type} {p : List α → Prop} (nil : p []) (snoc : ∀ l x, p l → p (l ++ [x])) (l : List α) : p l := by
  have h : ∀ m : List α, p m.reverse := fun m => by
    induction m with
    | nil => exact nil
    | cons a m ih => rw [List.reverse_cons]; exact snoc _ _ ih
  have := h l.reverse
  rwa [List.reverse_reverse] at this
abbrev SrT := List (List (Int × Int))
abbrev SrS := List Bool × List Int × SrT
def visitW (nx : Nat → List Int) (near : List (Int × Int) → Int → Bool) (h d : Int) (s : SrS) (v : Int) : SrS :=
  if near (nth s.2.2 v.toNat) d = true then s else
    ((rowW (s.1, s.2.1) (nx v.toNat)).1, (rowW (s.1, s.2.1) (nx v.toNat)).2, s.2.2.set v.toNat (nth s.2.2 v.toNat ++ [(h, d)]))
def levelW (nx : Nat → List Int) (near : List (Int × Int) → Int → Bool) (h d : Int) (S : List Bool) (T : SrT) (F : List Int) : SrS := F.foldl (visitW nx near h d) (S, [], T)
theorem rowW_snoc (s : List Bool × List Int) (l : List Int) (w : Int) : rowW s (l ++ [w]) = pushW (rowW s l) w := by simp [rowW]
theorem levelW_snoc (nx : Nat → List Int) (near : List (Int × Int) → Int → Bool) (h d : Int) (S : List Bool) (T : SrT) (F : List Int) (v : Int) : levelW nx near h d S T (F ++ [v]) = visitW nx near h d (levelW nx near h d S T F) v := by simp [levelW]
theorem nth_setB (S : List Bool) {i : Nat} (j : Nat) (hi : i < S.length) : nth (S.set i true) j = (nth S j || decide (i = j)) := by
  unfold nth
  rw [List.getD_eq_getElem?_getD, List.getD_eq_getElem?_getD, List.getElem?_set]
  by_cases e : i = j
  · subst e; simp [hi]
  · simp [e]
/-- what is told of a row: B are the new ones -/
structure RowW (S : List Bool) (A l : List Int) (S' : List Bool) (A' : List Int) : Prop where
  len : S'.length = S.length
  seen : ∀ w : Nat, nth S' w = true ↔ nth S w = true ∨ (w : Int) ∈ l
  new : ∃ B : List Int, A' = A ++ B ∧ B.Nodup ∧ (∀ x ∈ B, ∃ w : Nat, x = w ∧ w < S.length ∧ nth S w = false ∧ (w : Int) ∈ l) ∧ S'.count false + B.length = S.count false ∧ (∀ w : Nat, nth S w = false → nth S' w = true → (w : Int) ∈ B)
theorem count_set {S : List Bool} {i : Nat} (hi : i < S.length) (h : nth S i = false) : (S.set i true).count false + 1 = S.count false := by
  rw [List.count_set hi]
  rw [nth_eq hi] at h
  have : 0 < S.count false := List.count_pos_iff.2 (by rw [← h]; exact List.getElem_mem _)
  rw [h]; simp; omega
theorem rowW_ok {S : List Bool} (A : List Int) : ∀ {l : List Int}, (∀ x ∈ l, ∃ w : Nat, x = w ∧ w < S.length) → RowW S A l (rowW (S, A) l).1 (rowW (S, A) l).2 := by
  intro l
  induction l using snoc_ind with
  | nil => intro _; exact ⟨rfl, fun w => by simp [rowW], [], by simp [rowW], List.nodup_nil, fun x hx => (nomatch hx), rfl, fun w h1 h2 => by simp [rowW] at h2; rw [h1] at h2; cases h2⟩
  | snoc l x ih =>
    intro hl
    have ih := ih fun y hy => hl y (List.mem_append_left _ hy)
    obtain ⟨w, rfl, hw⟩ := hl x (by simp)
    rw [rowW_snoc]
    generalize rowW (S, A) l = r at *
    obtain ⟨S1, A1⟩ := r
    obtain ⟨i1, i2, B, i3, i4, i5, i6, i7⟩ := ih
    simp only at i1 i2 i3 i6 i7
    unfold pushW
    simp only [Int.toNat_natCast]
    by_cases hs : nth S1 w = true
    · rw [if_pos hs]
      refine ⟨i1, fun u => ?_, B, i3, i4, fun y hy => ?_, i6, i7⟩
      · simp only; rw [i2 u, List.mem_append, List.mem_singleton]
        constructor
        · rintro (h | h)
          · exact .inl h
          · exact .inr (.inl h)
        · rintro (h | h | h)
          · exact .inl h
          · exact .inr h
          · have : u = w := by omega
            subst this; exact (i2 u).1 hs
      · obtain ⟨u, h1, h2, h3, h4⟩ := i5 y hy
        exact ⟨u, h1, h2, h3, List.mem_append_left _ h4⟩
    · rw [if_neg hs]
      have hs' : nth S1 w = false := by simpa using hs
      have hsS : nth S w = false := by
        cases h : nth S w with
        | false => rfl
        | true => exact absurd ((i2 w).2 (.inl h)) hs
      have hlw : (w : Int) ∉ l := fun h => hs ((i2 w).2 (.inr h))
      refine ⟨by simp only; rw [List.length_set]; exact i1, fun u => ?_, B ++ [(w : Int)], by simp only; rw [i3, List.append_assoc], ?_, fun y hy => ?_, ?_, fun u h1 h2 => ?_⟩
      · simp only
        rw [nth_setB _ _ (by omega), Bool.or_eq_true, decide_eq_true_eq, i2 u, List.mem_append, List.mem_singleton]
        constructor
        · rintro ((h | h) | h)
          · exact .inl h
          · exact .inr (.inl h)
          · exact .inr (.inr (by omega))
        · rintro (h | h | h)
          · exact .inl (.inl h)
          · exact .inl (.inr h)
          · exact .inr (by omega)
      · rw [List.nodup_append]
        refine ⟨i4, by simp, fun a ha b hb e => ?_⟩
        rw [List.mem_singleton] at hb; subst hb; subst e
        obtain ⟨u, h1, _, _, h4⟩ := i5 _ ha
        exact hlw (by rw [h1]; exact h4)
      · rcases List.mem_append.1 hy with hy | hy
        · obtain ⟨u, h1, h2, h3, h4⟩ := i5 y hy
          exact ⟨u, h1, h2, h3, List.mem_append_left _ h4⟩
        · rw [List.mem_singleton] at hy
          exact ⟨w, hy, hw, hsS, by simp⟩
      · simp only
        have := count_set (by omega) hs'
        rw [List.length_append, List.length_singleton]; omega
      · simp only at h2
        rw [nth_setB _ _ (by omega), Bool.or_eq_true, decide_eq_true_eq] at h2
        rcases h2 with h2 | h2
        · exact List.mem_append_left _ (i7 u h1 h2)
        · subst h2; simp
/-- what the search asks of the rows, of what it is told, and of which places are good -/
structure SrW (nx : Nat → List Int) (near : List (Int × Int) → Int → Bool) (n h : Nat) (T0 : SrT) (good : Nat → Bool) (dd : Nat → Int) : Prop where
  hh : h < n
  len : T0.length = n
  lev : LevOk nx n h dd
  inr : ∀ v, v < n → ∀ x ∈ nx v, ∃ w : Nat, x = w ∧ w < n
  yes : ∀ v, v < n → good v = true → near (nth T0 v) (dd v) = false
  no : ∀ v d, v < n → good v = false → 0 ≤ dd v → dd v ≤ d → near (nth T0 v) d = true
  ge : ∀ v, v < n → good v = true → 0 ≤ dd v
  back : ∀ v, v < n → good v = true → 0 < dd v → ∃ u, u < n ∧ good u = true ∧ dd u = dd v - 1 ∧ (v : Int) ∈ nx u
/-- what is told of a place that is gone through -/
def toldW (h : Nat) (T0 : SrT) (good : Nat → Bool) (dd : Nat → Int) (v : Nat) : List (Int × Int) := if good v = true then nth T0 v ++ [((h : Int), dd v)] else nth T0 v
/-- how the search stands before the level d -/
structure SInv (nx : Nat → List Int) (n h : Nat) (T0 : SrT) (good : Nat → Bool) (dd : Nat → Int) (d : Int) (S : List Bool) (T : SrT) (F : List Int) : Prop where
  lenS : S.length = n
  lenT : T.length = n
  h0 : nth S h = true
  nd : F.Nodup
  front : ∀ x ∈ F, ∃ v : Nat, x = v ∧ v < n ∧ nth S v = true ∧ nth T v = nth T0 v ∧ 0 ≤ dd v ∧ dd v ≤ d ∧ (good v = true → dd v = d)
  past : ∀ v : Nat, v < n → nth S v = true → (v : Int) ∉ F → nth T v = toldW h T0 good dd v ∧ (good v = true → ∀ w : Nat, (w : Int) ∈ nx v → nth S w = true)
  new : ∀ v, v < n → nth S v = false → nth T v = nth T0 v ∧ (good v = true → d < dd v)
  bd : d + S.count false + (if F = [] then 0 else 1) ≤ n
  d0 : 0 ≤ d
section
variable {nx : Nat → List Int} {near : List (Int × Int) → Int → Bool} {n h : Nat} {T0 : SrT} {good : Nat → Bool} {dd : Nat → Int}
theorem SInv.start (H : SrW nx near n h T0 good dd) : SInv nx n h T0 good dd 0 ((List.replicate n false).set h true) T0 [(h : Int)] := by
  have hh := H.hh
  have hz : dd h = 0 := (H.lev.zero h hh).2 rfl
  have hs : ∀ v, nth ((List.replicate n false).set h true) v = decide (h = v) := fun v => by
    rw [nth_setB _ _ (by simpa using hh)]
    have : nth (List.replicate n false) v = false := by
      unfold nth
      rw [List.getD_eq_getElem?_getD, List.getElem?_replicate]
      by_cases e : v < n <;> simp [e]
    rw [this, Bool.false_or]
  refine ⟨by simp, H.len, by rw [hs]; simp, by simp, fun x hx => ?_, fun v hv h1 h2 => ?_, fun v hv h1 => ⟨rfl, fun hg => ?_⟩, ?_, by omega⟩
  · rw [List.mem_singleton] at hx
    exact ⟨h, hx, hh, by rw [hs]; simp, rfl, by omega, by omega, fun _ => hz⟩
  · rw [hs, decide_eq_true_eq] at h1
    subst h1; simp at h2
  · rw [hs, decide_eq_false_iff_not] at h1
    have h3 := H.ge v hv hg
    have h4 : ¬ dd v = 0 := fun e => h1 ((H.lev.zero v hv).1 e).symm
    omega
  · have h1 : nth (List.replicate n false) h = false := by rw [nth_eq (by simpa using hh)]; simp
    have h2 := count_set (S := List.replicate n false) (by simpa using hh) h1
    rw [List.count_replicate_self] at h2
    rw [if_neg (by simp)]; omega
/-- within a level: what is told behind the places P of the front -/
structure MInv (nx : Nat → List Int) (n h : Nat) (good : Nat → Bool) (d : Int) (S : List Bool) (T : SrT) (P : List Int) (r : SrS) : Prop where
  lenS : r.1.length = n
  lenT : r.2.2.length = n
  seen : ∀ w : Nat, nth r.1 w = true ↔ nth S w = true ∨ ∃ v : Nat, (v : Int) ∈ P ∧ good v = true ∧ (w : Int) ∈ nx v
  tab : ∀ v : Nat, v < n → nth r.2.2 v = if (v : Int) ∈ P ∧ good v = true then nth T v ++ [((h : Int), d)] else nth T v
  nd : r.2.1.Nodup
  ahead : ∀ x ∈ r.2.1, ∃ w : Nat, x = w ∧ w < n ∧ nth S w = false ∧ ∃ v : Nat, (v : Int) ∈ P ∧ good v = true ∧ (w : Int) ∈ nx v
  all : ∀ w : Nat, nth S w = false → nth r.1 w = true → (w : Int) ∈ r.2.1
  cnt : r.1.count false + r.2.1.length = S.count false
theorem nth_setT (T : SrT) {i : Nat} (j : Nat) (x : List (Int × Int)) (hi : i < T.length) : nth (T.set i x) j = if i = j then x else nth T j := by
  unfold nth
  rw [List.getD_eq_getElem?_getD, List.getD_eq_getElem?_getD, List.getElem?_set]
  by_cases e : i = j
  · subst e; simp [hi]
  · simp [e]
theorem MInv.run (H : SrW nx near n h T0 good dd) {d : Int} {S : List Bool} {T : SrT} {F : List Int} (I : SInv nx n h T0 good dd d S T F) : ∀ P, (∃ Q, F = P ++ Q) → MInv nx n h good d S T P (levelW nx near h d S T P) := by
  intro P
  induction P using snoc_ind with
  | nil => intro _; exact ⟨I.lenS, I.lenT, fun w => by simp [levelW], fun v hv => by simp [levelW], by simp [levelW], fun x hx => by simp [levelW] at hx, fun w h1 h2 => (by simp [levelW] at h2; rw [h1] at h2; cases h2), by simp [levelW]⟩
  | snoc P x ih =>
    rintro ⟨Q, hQ⟩
    have ih := ih ⟨x :: Q, by rw [hQ]; simp⟩
    rw [levelW_snoc]
    generalize levelW nx near h d S T P = r at *
    obtain ⟨S1, A1, T1⟩ := r
    obtain ⟨m1, m2, m3, m4, m5, m6, m7, m8⟩ := ih
    simp only at m1 m2 m3 m4 m5 m6 m7 m8
    obtain ⟨v, rfl, hv, v1, v2, v3, v4, v5⟩ := I.front x (by rw [hQ]; simp)
    have hvP : (v : Int) ∉ P := by
      have := I.nd
      rw [hQ, List.nodup_append] at this
      have := (List.nodup_append.1 this.1).2.2
      exact fun hp => this _ hp _ (by simp) rfl
    have hTv : nth T1 v = nth T0 v := by rw [m4 v hv, if_neg fun hc => hvP hc.1, v2]
    unfold visitW
    simp only [Int.toNat_natCast]
    rw [hTv]
    cases hg : good v with
    | false =>
      rw [if_pos (H.no v d hv hg v3 v4)]
      have key : ∀ (p : Nat → Prop), (∃ u : Nat, (u : Int) ∈ P ++ [(v : Int)] ∧ good u = true ∧ p u) ↔ ∃ u : Nat, (u : Int) ∈ P ∧ good u = true ∧ p u := fun p => by
        constructor
        · rintro ⟨u, h1, h2, h3⟩
          rcases List.mem_append.1 h1 with h1 | h1
          · exact ⟨u, h1, h2, h3⟩
          · rw [List.mem_singleton] at h1
            have : u = v := by omega
            subst this; rw [hg] at h2; cases h2
        · rintro ⟨u, h1, h2⟩; exact ⟨u, List.mem_append_left _ h1, h2⟩
      refine ⟨m1, m2, fun w => by simp only; rw [m3 w, key], fun u hu => ?_, m5, fun y hy => ?_, m7, m8⟩
      · simp only
        rw [m4 u hu]
        by_cases e : (u : Int) ∈ P ∧ good u = true
        · rw [if_pos e, if_pos ⟨List.mem_append_left _ e.1, e.2⟩]
        · rw [if_neg e, if_neg]
          rintro ⟨h1, h2⟩
          rcases List.mem_append.1 h1 with h1 | h1
          · exact e ⟨h1, h2⟩
          · rw [List.mem_singleton] at h1
            have : u = v := by omega
            subst this; rw [hg] at h2; cases h2
      · obtain ⟨w, h1, h2, h3, h4⟩ := m6 y hy
        exact ⟨w, h1, h2, h3, (key _).2 h4⟩
    | true =>
      have hdv := v5 hg
      have hnr := H.yes v hv hg
      rw [hdv] at hnr
      rw [if_neg (by rw [hnr]; simp)]
      have hin : ∀ y ∈ nx v, ∃ w : Nat, y = w ∧ w < S1.length := fun y hy => by rw [m1]; exact H.inr v hv y hy
      have hr := rowW_ok (S := S1) A1 hin
      generalize rowW (S1, A1) (nx v) = r2 at *
      obtain ⟨S2, A2⟩ := r2
      obtain ⟨r1, r2, B, r3, r4, r5, r6, r7⟩ := hr
      simp only at r1 r2 r3 r6 r7
      have key : ∀ (p : Nat → Prop), (∃ u : Nat, (u : Int) ∈ P ++ [(v : Int)] ∧ good u = true ∧ p u) ↔ (∃ u : Nat, (u : Int) ∈ P ∧ good u = true ∧ p u) ∨ p v := fun p => by
        constructor
        · rintro ⟨u, h1, h2, h3⟩
          rcases List.mem_append.1 h1 with h1 | h1
          · exact .inl ⟨u, h1, h2, h3⟩
          · rw [List.mem_singleton] at h1
            have : u = v := by omega
            subst this; exact .inr h3
        · rintro (⟨u, h1, h2⟩ | h1)
          · exact ⟨u, List.mem_append_left _ h1, h2⟩
          · exact ⟨v, by simp, hg, h1⟩
      have hBS : ∀ x ∈ B, ∃ w : Nat, x = w ∧ w < n ∧ nth S w = false ∧ (w : Int) ∈ nx v := fun x hx => by
        obtain ⟨w, h1, h2, h3, h4⟩ := r5 x hx
        refine ⟨w, h1, by omega, ?_, h4⟩
        cases hs : nth S w with
        | false => rfl
        | true => rw [(m3 w).2 (.inl hs)] at h3; cases h3
      refine ⟨by simp only; omega, by simp only; rw [List.length_set]; exact m2, fun w => ?_, fun u hu => ?_, ?_, fun y hy => ?_, fun w h1 h2 => ?_, ?_⟩
      · simp only; rw [r2 w, m3 w, key, or_assoc]
      · simp only
        rw [nth_setT _ _ _ (by omega), m4 u hu]
        by_cases e : v = u
        · subst e
          rw [if_pos rfl, if_pos ⟨by simp, hg⟩, v2]
        · rw [if_neg e]
          by_cases e2 : (u : Int) ∈ P ∧ good u = true
          · rw [if_pos e2, if_pos ⟨List.mem_append_left _ e2.1, e2.2⟩]
          · rw [if_neg e2, if_neg]
            rintro ⟨h1, h2⟩
            rcases List.mem_append.1 h1 with h1 | h1
            · exact e2 ⟨h1, h2⟩
            · rw [List.mem_singleton] at h1; omega
      · simp only
        rw [r3, List.nodup_append]
        refine ⟨m5, r4, fun a ha b hb e => ?_⟩
        subst e
        obtain ⟨w, h1, h2, h3, h4⟩ := m6 a ha
        obtain ⟨w', h1', _, h3', _⟩ := r5 a hb
        have : w = w' := by omega
        subst this
        rw [(m3 w).2 (.inr h4)] at h3'; cases h3'
      · simp only at hy
        rw [r3] at hy
        rcases List.mem_append.1 hy with hy | hy
        · obtain ⟨w, h1, h2, h3, h4⟩ := m6 y hy
          exact ⟨w, h1, h2, h3, (key _).2 (.inl h4)⟩
        · obtain ⟨w, h1, h2, h3, h4⟩ := hBS y hy
          exact ⟨w, h1, h2, h3, (key _).2 (.inr h4)⟩
      · simp only at h2 ⊢
        rw [r3]
        cases h3 : nth S1 w with
        | true => exact List.mem_append_left _ (m7 w h1 h3)
        | false => exact List.mem_append_right _ (r7 w h3 h2)
      · simp only
        rw [r3, List.length_append]; omega
theorem SInv.next (H : SrW nx near n h T0 good dd) {d : Int} {S : List Bool} {T : SrT} {F : List Int} (I : SInv nx n h T0 good dd d S T F) (hF : F ≠ []) :
    SInv nx n h T0 good dd (d + 1) (levelW nx near h d S T F).1 (levelW nx near h d S T F).2.2 (levelW nx near h d S T F).2.1 := by
  have M := MInv.run H I F ⟨[], by simp⟩
  generalize levelW nx near h d S T F = r at *
  obtain ⟨S1, A1, T1⟩ := r
  obtain ⟨m1, m2, m3, m4, m5, m6, m7, m8⟩ := M
  simp only at m1 m2 m3 m4 m5 m6 m7 m8 ⊢
  have hunF : ∀ w : Nat, nth S w = false → (w : Int) ∉ F := fun w hw hf => by
    obtain ⟨v, e, _, h3, _⟩ := I.front _ hf
    have : w = v := by omega
    subst this; rw [hw] at h3; cases h3
  refine ⟨m1, m2, (m3 h).2 (.inl I.h0), m5, fun x hx => ?_, fun v hv h1 h2 => ?_, fun v hv h1 => ?_, ?_, by have := I.d0; omega⟩
  · obtain ⟨w, rfl, hw, h3, v, h4, h5, h6⟩ := m6 x hx
    obtain ⟨v', e, v1, v2, v3, v4, v5, v6⟩ := I.front _ h4
    obtain rfl : v = v' := by omega
    have hn := H.lev.next v w v1 hw h6 v4
    have h7 := I.new w hw h3
    refine ⟨w, rfl, hw, (m3 w).2 (.inr ⟨v, h4, h5, h6⟩), ?_, hn.1, by omega, fun hg => ?_⟩
    · rw [m4 w hw, if_neg fun hc => hunF w h3 hc.1, h7.1]
    · have := h7.2 hg; omega
  · cases hs : nth S v with
    | false => exact absurd (m7 v hs h1) h2
    | true =>
      by_cases hf : (v : Int) ∈ F
      · obtain ⟨v', e, v1, v2, v3, v4, v5, v6⟩ := I.front _ hf
        obtain rfl : v = v' := by omega
        refine ⟨?_, fun hg w hw => (m3 w).2 (.inr ⟨v, hf, hg, hw⟩)⟩
        rw [m4 v hv]
        unfold toldW
        by_cases hg : good v = true
        · rw [if_pos ⟨hf, hg⟩, if_pos hg, v3, v6 hg]
        · rw [if_neg fun hc => hg hc.2, if_neg hg, v3]
      · have hp := I.past v hv hs hf
        refine ⟨?_, fun hg w hw => (m3 w).2 (.inl (hp.2 hg w hw))⟩
        rw [m4 v hv, if_neg fun hc => hf hc.1, hp.1]
  · have hs : nth S v = false := by
      cases hs : nth S v with
      | false => rfl
      | true => rw [(m3 v).2 (.inl hs)] at h1; cases h1
    have h7 := I.new v hv hs
    refine ⟨?_, fun hg => ?_⟩
    · rw [m4 v hv, if_neg fun hc => hunF v hs hc.1, h7.1]
    · have h8 := h7.2 hg
      have h0 := I.d0
      by_cases e : dd v = d + 1
      · exfalso
        obtain ⟨u, hu, hgu, hdu, hvu⟩ := H.back v hv hg (by omega)
        cases hsu : nth S u with
        | false => have := (I.new u hu hsu).2 hgu; omega
        | true =>
          by_cases hfu : (u : Int) ∈ F
          · rw [(m3 v).2 (.inr ⟨u, hfu, hgu, hvu⟩)] at h1; cases h1
          · have := (I.past u hu hsu hfu).2 hgu v hvu
            rw [hs] at this; cases this
      · omega
  · have hb := I.bd
    rw [if_neg hF] at hb
    by_cases e : A1 = []
    · rw [if_pos e]
      subst e
      simp only [List.length_nil] at m8
      omega
    · rw [if_neg e]
      have : 0 < A1.length := List.length_pos_iff.2 e
      omega
/-- the search is at its end -/
theorem SInv.done (H : SrW nx near n h T0 good dd) {d : Int} {S : List Bool} {T : SrT} (I : SInv nx n h T0 good dd d S T []) : T = (List.range n).map fun v => toldW h T0 good dd v := by
  have hall : ∀ (k v : Nat), v < n → good v = true → dd v = k → nth S v = true := by
    intro k
    induction k with
    | zero =>
      intro v hv hg hd
      have := (H.lev.zero v hv).1 (by omega)
      subst this; exact I.h0
    | succ k ih =>
      intro v hv hg hd
      obtain ⟨u, hu, h1, h2, h3⟩ := H.back v hv hg (by omega)
      exact (I.past u hu (ih u hu h1 (by omega)) (by simp)).2 h1 v h3
  refine List.ext_getElem (by rw [I.lenT]; simp) fun v h1 h2 => ?_
  have hv : v < n := by rw [← I.lenT]; exact h1
  rw [List.getElem_map, List.getElem_range, ← nth_eq h1]
  cases hs : nth S v with
  | true => exact (I.past v hv hs (by simp)).1
  | false =>
    have h3 := I.new v hv hs
    rw [h3.1]
    unfold toldW
    by_cases hg : good v = true
    · have h4 := H.ge v hv hg
      have := hall (dd v).toNat v hv hg (by omega)
      rw [hs] at this; cases this
    · rw [if_neg hg]
end
end Go.Proofs.YthlmcfbadhidbaaGreat
/- The least sum over hubs that both rows have (chapter 12), in plain Lean. -/
namespace Go.Proofs.YthlmcfbadhidbaaGreat
open Go Go.RowKit
def leastS (acc : Int × Bool) (a b : Int × Int) : Int × Bool := if a.1 = b.1 ∧ (acc.2 = false ∨ a.2 + b.2 < acc.1) then (a.2 + b.2, true) else acc
def leastR (acc : Int × Bool) (a : Int × Int) (inn : List (Int × Int)) : Int × Bool := inn.foldl (fun acc b => leastS acc a b) acc
def leastV (out inn : List (Int × Int)) : Int × Bool := out.foldl (fun acc a => leastR acc a inn) (0, false)
theorem leastR_snoc (acc : Int × Bool) (a : Int × Int) (l : List (Int × Int)) (b : Int × Int) : leastR acc a (l ++ [b]) = leastS (leastR acc a l) a b := by simp [leastR]
theorem leastV_snoc (l inn : List (Int × Int)) (a : Int × Int) : leastV (l ++ [a]) inn = leastR (leastV l inn) a inn := by simp [leastV]
/-- a sum over a hub that both have -/
def Both (out inn : List (Int × Int)) (x : Int) : Prop := ∃ a ∈ out, ∃ b ∈ inn, a.1 = b.1 ∧ x = a.2 + b.2
/-- the least of what is so, if anything is -/
def LeastOk (C : Int → Prop) (r : Int × Bool) : Prop := (r.2 = false → r.1 = 0 ∧ ∀ x, ¬ C x) ∧ (r.2 = true → C r.1 ∧ ∀ x, C x → r.1 ≤ x)
theorem LeastOk.uniq {C D : Int → Prop} {r s : Int × Bool} (h : LeastOk C r) (k : LeastOk D s) (e : ∀ x, C x ↔ D x) : r = s := by
  obtain ⟨a, b⟩ := r
  obtain ⟨c, d⟩ := s
  cases b with
  | false =>
    obtain ⟨h1, h2⟩ := h.1 rfl
    cases d with
    | false => obtain ⟨k1, _⟩ := k.1 rfl; simp only at h1 k1; rw [h1, k1]
    | true => exact absurd ((e _).2 (k.2 rfl).1) (h2 _)
  | true =>
    obtain ⟨h1, h2⟩ := h.2 rfl
    cases d with
    | false => exact absurd ((e _).1 h1) ((k.1 rfl).2 _)
    | true =>
      obtain ⟨k1, k2⟩ := k.2 rfl
      have a1 := h2 _ ((e _).2 k1)
      have a2 := k2 _ ((e _).1 h1)
      simp only at a1 a2
      have : a = c := by omega
      rw [this]
theorem leastS_ok {C : Int → Prop} {r : Int × Bool} (a b : Int × Int) (h : LeastOk C r) : LeastOk (fun x => C x ∨ (a.1 = b.1 ∧ x = a.2 + b.2)) (leastS r a b) := by
  unfold leastS
  by_cases e : a.1 = b.1
  · cases hr : r.2 with
    | false =>
      obtain ⟨h1, h2⟩ := h.1 hr
      rw [if_pos ⟨e, .inl rfl⟩]
      refine ⟨fun k => by simp at k, fun _ => ⟨.inr ⟨e, rfl⟩, fun x hx => ?_⟩⟩
      rcases hx with hx | hx
      · exact absurd hx (h2 x)
      · simp only; omega
    | true =>
      obtain ⟨h1, h2⟩ := h.2 hr
      by_cases hl : a.2 + b.2 < r.1
      · rw [if_pos ⟨e, .inr hl⟩]
        refine ⟨fun k => by simp at k, fun _ => ⟨.inr ⟨e, rfl⟩, fun x hx => ?_⟩⟩
        rcases hx with hx | hx
        · have := h2 x hx; simp only; omega
        · simp only; omega
      · rw [if_neg (by
          rintro ⟨_, k | k⟩
          · cases k
          · exact hl k)]
        refine ⟨fun k => (by rw [hr] at k; cases k), fun _ => ⟨.inl h1, fun x hx => ?_⟩⟩
        rcases hx with hx | hx
        · exact h2 x hx
        · omega
  · rw [if_neg fun k => e k.1]
    refine ⟨fun k => ⟨(h.1 k).1, fun x hx => ?_⟩, fun k => ⟨.inl (h.2 k).1, fun x hx => ?_⟩⟩
    · rcases hx with hx | hx
      · exact (h.1 k).2 x hx
      · exact e hx.1
    · rcases hx with hx | hx
      · exact (h.2 k).2 x hx
      · exact absurd hx.1 e
theorem LeastOk.of {C D : Int → Prop} {r : Int × Bool} (h : LeastOk C r) (e : ∀ x, C x ↔ D x) : LeastOk D r :=
  ⟨fun k => ⟨(h.1 k).1, fun x hx => (h.1 k).2 x ((e x).2 hx)⟩, fun k => ⟨(e _).1 (h.2 k).1, fun x hx => (h.2 k).2 x ((e x).2 hx)⟩⟩
theorem leastR_ok (a : Int × Int) : ∀ (inn : List (Int × Int)) {C : Int → Prop} {r : Int × Bool}, LeastOk C r → LeastOk (fun x => C x ∨ ∃ b ∈ inn, a.1 = b.1 ∧ x = a.2 + b.2) (leastR r a inn)
  | [], C, r, h => h.of fun x => by simp
  | b :: l, C, r, h => by
    have h1 := leastR_ok a l (leastS_ok a b h)
    refine h1.of fun x => ?_
    simp only [List.mem_cons, exists_eq_or_imp]
    rw [or_assoc]
theorem leastV_aux (inn : List (Int × Int)) : ∀ (out : List (Int × Int)) {C : Int → Prop} {r : Int × Bool}, LeastOk C r → LeastOk (fun x => C x ∨ Both out inn x) (out.foldl (fun acc a => leastR acc a inn) r)
  | [], C, r, h => h.of fun x => by simp [Both]
  | a :: l, C, r, h => by
    have h1 := leastV_aux inn l (leastR_ok a inn h)
    refine h1.of fun x => ?_
    unfold Both
    simp only [List.mem_cons, exists_eq_or_imp]
    rw [or_assoc]
theorem leastV_ok (out inn : List (Int × Int)) : LeastOk (Both out inn) (leastV out inn) := by
  have h := leastV_aux inn out (C := fun _ => False) (r := (0, false)) ⟨fun _ => ⟨rfl, fun _ h => h⟩, fun h => by simp at h⟩
  exact h.of fun x => by simp
theorem Both.comm {out inn : List (Int × Int)} {x : Int} (h : Both out inn x) : Both inn out x := by
  obtain ⟨a, ha, b, hb, e, rfl⟩ := h
  exact ⟨b, hb, a, ha, e.symm, by omega⟩
theorem leastV_comm (out inn : List (Int × Int)) : leastV out inn = leastV inn out := (leastV_ok out inn).uniq (leastV_ok inn out) fun _ => ⟨Both.comm, Both.comm⟩
/-- it is told, and is not more -/
def nearB (r : Int × Bool) (d : Int) : Bool := r.2 && decide (r.1 ≤ d)
theorem nearB_no {C : Int → Prop} {r : Int × Bool} (h : LeastOk C r) {d : Int} (k : ∀ x, C x → d < x) : nearB r d = false := by
  unfold nearB
  cases hr : r.2 with
  | false => rfl
  | true => have := k _ (h.2 hr).1; simp; omega
theorem nearB_yes {C : Int → Prop} {r : Int × Bool} (h : LeastOk C r) {d x : Int} (hx : C x) (hd : x ≤ d) : nearB r d = true := by
  unfold nearB
  cases hr : r.2 with
  | false => exact absurd hx ((h.1 hr).2 x)
  | true => have := (h.2 hr).2 x hx; simp; omega
end Go.Proofs.YthlmcfbadhidbaaGreat
/- Orders of places and their numbers (chapter 11), in plain Lean. -/
namespace Go.Proofs.YthlmcfbadhidbaaGreat
open Go Go.RowKit
/-- numbers that are an order of n places -/
def OrdP (l : List Int) (n : Nat) : Prop := l.length = n ∧ l.Nodup ∧ ∀ x ∈ l, 0 ≤ x ∧ x < n
def ordB (l : List Int) : Bool := decide (l.Nodup) && l.all fun x => decide (0 ≤ x) && decide (x < l.length)
theorem ordB_iff {l : List Int} : ordB l = true ↔ OrdP l l.length := by
  unfold ordB OrdP
  rw [Bool.and_eq_true, decide_eq_true_eq, List.all_eq_true]
  constructor
  · rintro ⟨h1, h2⟩
    refine ⟨rfl, h1, fun x hx => ?_⟩
    have := h2 x hx
    rwa [Bool.and_eq_true, decide_eq_true_eq, decide_eq_true_eq] at this
  · rintro ⟨_, h1, h2⟩
    refine ⟨h1, fun x hx => ?_⟩
    rw [Bool.and_eq_true, decide_eq_true_eq, decide_eq_true_eq]; exact h2 x hx
/-- an order holds every place -/
theorem ord_mem {l : List Int} {n : Nat} (h : OrdP l n) {v : Nat} (hv : v < n) : (v : Int) ∈ l := by
  apply Classical.byContradiction; intro hm
  have := nodup_small (l := (v : Int) :: l) (n := n) (List.nodup_cons.2 ⟨hm, h.2.1⟩) fun x hx => by
    rcases List.mem_cons.1 hx with rfl | hx
    · omega
    · exact h.2.2 x hx
  rw [List.length_cons, h.1] at this; omega
/-- as the document counts: each place once -/
theorem ord_count {l : List Int} : ordB l = true ↔ ∀ v : Nat, v < l.length → l.count (v : Int) = 1 := by
  rw [ordB_iff]
  constructor
  · intro h v hv
    rw [h.2.1.count, if_pos (ord_mem h hv)]
  · intro h
    have hp : ∀ x ∈ l, decide (0 ≤ x ∧ x < (l.length : Int)) = true := by
      rw [← List.length_filter_eq_length_iff]
      refine Nat.le_antisymm (List.length_filter_le _ _) ?_
      have h2 : ((List.range l.length).map fun v : Nat => (v : Int)).Nodup :=
        List.Pairwise.map _ (fun a b (hab : a ≠ b) (e : (a : Int) = b) => hab (by omega)) List.nodup_range
      have := h2.length_le_of_subset (l₂ := l.filter fun x => decide (0 ≤ x ∧ x < (l.length : Int))) fun x hx => by
        obtain ⟨v, hv, rfl⟩ := List.mem_map.1 hx
        have hv' := List.mem_range.1 hv
        rw [List.mem_filter, decide_eq_true_eq]
        refine ⟨?_, by omega, by omega⟩
        have := h v hv'
        exact List.count_pos_iff.1 (by omega)
      simpa using this
    refine ⟨rfl, ?_, fun x hx => by simpa using hp x hx⟩
    rw [List.nodup_iff_count]
    intro x
    by_cases hx : x ∈ l
    · have h1 := hp x hx
      rw [decide_eq_true_eq] at h1
      have := h x.toNat (by omega)
      rw [Int.toNat_of_nonneg h1.1] at this
      omega
    · rw [List.count_eq_zero_of_not_mem hx]; omega
/-- where each place stands -/
def posL (l : List Int) (k : Nat) (X : List Int) : List Int := (List.range k).foldl (fun X i => X.set (nth l i).toNat (i : Int)) X
def placesL (l : List Int) : List Int := posL l l.length (List.replicate l.length 0)
theorem posL_step (l : List Int) (k : Nat) (X : List Int) : posL l (k + 1) X = (posL l k X).set (nth l k).toNat (k : Int) := by
  unfold posL; rw [List.range_succ, List.foldl_append]; rfl
theorem posL_len (l : List Int) (k : Nat) (X : List Int) : (posL l k X).length = X.length := by
  induction k with
  | zero => rfl
  | succ k ih => rw [posL_step, List.length_set, ih]
/-- how many orders of m places there are -/
def fac : Nat → Nat
  | 0 => 1
  | m + 1 => (m + 1) * fac m
theorem fac_pos : ∀ m, 0 < fac m
  | 0 => Nat.one_pos
  | m + 1 => Nat.mul_pos (Nat.succ_pos m) (fac_pos m)
/-- the order of a number, of places that are left -/
def nthA : Nat → List Int → Nat → List Int
  | 0, _, _ => []
  | m + 1, left, k => nth left (k / fac m) :: nthA m (left.eraseIdx (k / fac m)) (k % fac m)
/-- the number of an order -/
def turnA : List Int → Nat
  | [] => 0
  | x :: l => (l.countP fun w => decide (w < x)) * fac l.length + turnA l
theorem nthA_len : ∀ (m : Nat) (left : List Int) (k : Nat), (nthA m left k).length = m
  | 0, _, _ => rfl
  | m + 1, left, k => by rw [nthA, List.length_cons, nthA_len]
theorem dig_lt {m k : Nat} (h : k < fac (m + 1)) : k / fac m < m + 1 := Nat.div_lt_of_lt_mul (by rw [Nat.mul_comm]; exact h)
theorem mem_erase {left : List Int} {d : Nat} (hd : d < left.length) {x : Int} : x ∈ left ↔ x = nth left d ∨ x ∈ left.eraseIdx d := by
  rw [List.mem_eraseIdx_iff_getElem]
  constructor
  · intro h
    obtain ⟨i, hi, e⟩ := List.getElem_of_mem h
    by_cases hid : i = d
    · subst hid; left; rw [nth_eq hd]; exact e.symm
    · right; exact ⟨i, hi, hid, e⟩
  · rintro (rfl | ⟨i, hi, _, rfl⟩)
    · exact nth_mem hd
    · exact List.getElem_mem hi
theorem nthA_mem : ∀ {m : Nat} {left : List Int} {k : Nat}, left.length = m → k < fac m → ∀ x, x ∈ nthA m left k ↔ x ∈ left
  | 0, left, k, hl, _, x => by rw [List.eq_nil_of_length_eq_zero hl]; rfl
  | m + 1, left, k, hl, hk, x => by
    have hd := dig_lt hk
    rw [nthA, List.mem_cons, nthA_mem (by rw [List.length_eraseIdx_of_lt (by omega)]; omega) (Nat.mod_lt _ (fac_pos m))]
    exact (mem_erase (by omega)).symm
theorem rises_erase {left : List Int} (h : left.Pairwise (· < ·)) {d : Nat} : (left.eraseIdx d).Pairwise (· < ·) := h.eraseIdx d
theorem erase_less {left : List Int} (h : left.Pairwise (· < ·)) {d : Nat} (hd : d < left.length) : ((left.eraseIdx d).countP fun w => decide (w < nth left d)) = d := by
  have e : left.eraseIdx d = left.take d ++ left.drop (d + 1) := List.eraseIdx_eq_take_drop_succ left d
  have hp := List.pairwise_iff_getElem.1 h
  rw [e, List.countP_append, List.countP_eq_length.2, List.countP_eq_zero.2]
  · rw [List.length_take]; omega
  · intro x hx
    obtain ⟨i, hi, rfl⟩ := List.getElem_of_mem hx
    rw [List.length_drop] at hi
    rw [List.getElem_drop, nth_eq hd]
    have := hp d (d + 1 + i) hd (by omega) (by omega)
    simp; omega
  · intro x hx
    obtain ⟨i, hi, rfl⟩ := List.getElem_of_mem hx
    rw [List.length_take] at hi
    rw [List.getElem_take, nth_eq hd]
    have := hp i d (by omega) hd (by omega)
    simpa using this
/-- the same numbers, as many of them less -/
theorem count_same {l m : List Int} (hl : l.Nodup) (hm : m.Nodup) (h : ∀ x, x ∈ l ↔ x ∈ m) (p : Int → Bool) : l.countP p = m.countP p := by
  rw [List.countP_eq_length_filter, List.countP_eq_length_filter]
  refine Nat.le_antisymm (List.Nodup.length_le_of_subset (hl.filter p) fun x hx => ?_) (List.Nodup.length_le_of_subset (hm.filter p) fun x hx => ?_)
  · rw [List.mem_filter] at *; exact ⟨(h x).1 hx.1, hx.2⟩
  · rw [List.mem_filter] at *; exact ⟨(h x).2 hx.1, hx.2⟩
theorem rises_nodup {l : List Int} (h : l.Pairwise (· < ·)) : l.Nodup := h.imp fun {a b} hab e => by omega
theorem nthA_nodup : ∀ {m : Nat} {left : List Int} {k : Nat}, left.length = m → left.Nodup → k < fac m → (nthA m left k).Nodup
  | 0, _, _, _, _, _ => List.nodup_nil
  | m + 1, left, k, hl, hn, hk => by
    have hd := dig_lt hk
    have hle : (left.eraseIdx (k / fac m)).length = m := by rw [List.length_eraseIdx_of_lt (by omega)]; omega
    have hmod : k % fac m < fac m := Nat.mod_lt _ (fac_pos m)
    rw [nthA, List.nodup_cons]
    refine ⟨fun h => ?_, nthA_nodup hle (hn.sublist (List.eraseIdx_sublist _ _)) hmod⟩
    rw [nthA_mem hle hmod, List.mem_eraseIdx_iff_getElem] at h
    obtain ⟨i, hi, hne, e⟩ := h
    rw [nth_eq (by omega)] at e
    exact hne ((List.getElem_inj hn).1 e)
/-- the number of the order of a number -/
theorem turn_nth : ∀ {m : Nat} {left : List Int} {k : Nat}, left.length = m → left.Pairwise (· < ·) → k < fac m → turnA (nthA m left k) = k
  | 0, _, k, _, _, hk => by show 0 = k; unfold fac at hk; omega
  | m + 1, left, k, hl, hr, hk => by
    have hd := dig_lt hk
    have hle : (left.eraseIdx (k / fac m)).length = m := by rw [List.length_eraseIdx_of_lt (by omega)]; omega
    have hmod : k % fac m < fac m := Nat.mod_lt _ (fac_pos m)
    have hre := rises_erase hr (d := k / fac m)
    rw [nthA, turnA, nthA_len, turn_nth hle hre hmod, count_same (nthA_nodup hle (rises_nodup hre) hmod) (rises_nodup hre) (nthA_mem hle hmod), erase_less hr (by omega)]
    rw [Nat.mul_comm]; exact Nat.div_add_mod k (fac m)
/-- the order of the greater number is greater: at the first place where they part -/
theorem nth_less : ∀ {m : Nat} {left : List Int} {k k' : Nat}, left.length = m → left.Pairwise (· < ·) → k < k' → k' < fac m →
    ∃ i, i < m ∧ (∀ j, j < i → nth (nthA m left k) j = nth (nthA m left k') j) ∧ nth (nthA m left k) i < nth (nthA m left k') i
  | 0, _, k, k', _, _, h1, h2 => by unfold fac at h2; omega
  | m + 1, left, k, k', hl, hr, h1, h2 => by
    have hd := dig_lt h2
    have hle : ∀ d, d < m + 1 → (left.eraseIdx d).length = m := fun d hd => by rw [List.length_eraseIdx_of_lt (by omega)]; omega
    have hdd : k / fac m ≤ k' / fac m := Nat.div_le_div_right (by omega)
    by_cases e : k / fac m = k' / fac m
    · have h3 : k % fac m < k' % fac m := by
        have a := Nat.div_add_mod k (fac m)
        have b := Nat.div_add_mod k' (fac m)
        rw [e] at a; omega
      obtain ⟨i, hi, h4, h5⟩ := nth_less (hle (k' / fac m) hd) (rises_erase hr) h3 (Nat.mod_lt _ (fac_pos m))
      refine ⟨i + 1, by omega, fun j hj => ?_, ?_⟩
      · cases j with
        | zero => rw [nthA, nthA, e]; rfl
        | succ j => rw [nthA, nthA, e]; exact h4 j (by omega)
      · rw [nthA, nthA, e]; exact h5
    · refine ⟨0, by omega, fun j hj => by omega, ?_⟩
      rw [nthA, nthA]
      show nth left (k / fac m) < nth left (k' / fac m)
      rw [nth_eq (by omega), nth_eq (by omega)]
      exact List.pairwise_iff_getElem.1 hr _ _ (by omega) (by omega) (by omega)
def rangeI (n : Nat) : List Int := (List.range n).map fun v : Nat => (v : Int)
theorem rangeI_len (n : Nat) : (rangeI n).length = n := by simp [rangeI]
theorem rangeI_rises (n : Nat) : (rangeI n).Pairwise (· < ·) :=
  List.Pairwise.map _ (fun a b (hab : a < b) => by show (a : Int) < b; omega) List.pairwise_lt_range
theorem rangeI_nth {n v : Nat} (hv : v < n) : nth (rangeI n) v = v := by
  rw [nth_eq (by rw [rangeI_len]; exact hv)]; simp [rangeI]
theorem rangeI_mem {n : Nat} {x : Int} : x ∈ rangeI n ↔ 0 ≤ x ∧ x < n := by
  unfold rangeI
  rw [List.mem_map]
  constructor
  · rintro ⟨v, hv, rfl⟩; have := List.mem_range.1 hv; omega
  · rintro ⟨h1, h2⟩; exact ⟨x.toNat, List.mem_range.2 (by omega), by omega⟩
theorem rangeI_step (n : Nat) : rangeI (n + 1) = rangeI n ++ [(n : Int)] := by unfold rangeI; rw [List.range_succ, List.map_append]; rfl
/-- the order of the number k of n places -/
def nthI (n k : Nat) : List Int := nthA n (rangeI n) k
theorem nthI_ord {n k : Nat} (h : k < fac n) : OrdP (nthI n k) n :=
  ⟨nthA_len _ _ _, nthA_nodup (rangeI_len n) (rises_nodup (rangeI_rises n)) h, fun x hx => rangeI_mem.1 ((nthA_mem (rangeI_len n) h x).1 hx)⟩
theorem nthI_turn {n k : Nat} (h : k < fac n) : turnA (nthI n k) = k := turn_nth (rangeI_len n) (rangeI_rises n) h
theorem nthI_less {n k k' : Nat} (h1 : k < k') (h2 : k' < fac n) : ∃ i, i < n ∧ (∀ j, j < i → nth (nthI n k) j = nth (nthI n k') j) ∧ nth (nthI n k) i < nth (nthI n k') i := nth_less (rangeI_len n) (rangeI_rises n) h1 h2
/-- the digit that the program tells -/
theorem dig_eq (k m : Nat) : k / fac m % (m + 1) = k % fac (m + 1) / fac m := by
  rw [fac, Nat.mul_comm (m + 1), Nat.mod_mul_right_div_self]
theorem mod_fac (k m : Nat) : k % fac (m + 1) % fac m = k % fac m := Nat.mod_mod_of_dvd k ⟨m + 1, by rw [fac, Nat.mul_comm]⟩
/-- one more place is told -/
theorem nthA_step {m : Nat} {left l : List Int} {k : Nat} : l ++ nthA (m + 1) left (k % fac (m + 1)) = (l ++ [nth left (k / fac m % (m + 1))]) ++ nthA m (left.eraseIdx (k / fac m % (m + 1))) (k % fac m) := by
  rw [nthA, dig_eq, mod_fac, List.append_assoc]; rfl
theorem turn_lt : ∀ l : List Int, turnA l < fac l.length
  | [] => Nat.one_pos
  | x :: l => by
    have h1 := turn_lt l
    have h2 : (l.countP fun w => decide (w < x)) ≤ l.length := List.countP_le_length
    have h3 := Nat.mul_le_mul_right (fac l.length) h2
    rw [turnA, List.length_cons, fac, Nat.succ_mul]
    omega
/-- how many behind the i-th are less -/
def lessN (l : List Int) (i : Nat) : Nat := (l.drop (i + 1)).countP fun w => decide (w < nth l i)
theorem turn_drop {l : List Int} {i : Nat} (h : i < l.length) : turnA (l.drop i) = lessN l i * fac (l.length - 1 - i) + turnA (l.drop (i + 1)) := by
  rw [List.drop_eq_getElem_cons h, turnA]
  unfold lessN
  rw [nth_eq h, List.length_drop]
  congr 3
  omega
theorem turn_horn {l : List Int} {i k : Nat} (h : i < l.length) (hk : k * fac (l.length - i) + turnA (l.drop i) = turnA l) : (k * (l.length - i) + lessN l i) * fac (l.length - (i + 1)) + turnA (l.drop (i + 1)) = turnA l := by
  rw [← hk, turn_drop h]
  obtain ⟨m, hm⟩ : ∃ m, l.length - i = m + 1 := ⟨l.length - i - 1, by omega⟩
  have e1 : l.length - (i + 1) = m := by omega
  have e2 : l.length - 1 - i = m := by omega
  rw [hm, e1, e2, fac, Nat.add_mul, Nat.mul_assoc, Nat.add_assoc]
theorem lessN_le (l : List Int) (i : Nat) : lessN l i ≤ l.length - (i + 1) := by
  unfold lessN
  have := List.countP_le_length (p := fun w : Int => decide (w < nth l i)) (l := l.drop (i + 1))
  rwa [List.length_drop] at this
/-- the first order rises -/
theorem nthA_0 : ∀ {m : Nat} {left : List Int}, left.length = m → nthA m left 0 = left
  | 0, left, h => (List.eq_nil_of_length_eq_zero h).symm
  | m + 1, left, h => by
    obtain ⟨a, l, rfl⟩ : ∃ a l, left = a :: l := by cases left with | nil => cases h | cons a l => exact ⟨a, l, rfl⟩
    rw [nthA, Nat.zero_div, Nat.zero_mod]
    show a :: nthA m l 0 = a :: l
    rw [nthA_0 (by simpa using h)]
/-- the last one falls -/
theorem nthA_last : ∀ {m : Nat} {left : List Int}, left.length = m → nthA m left (fac m - 1) = left.reverse
  | 0, left, h => by rw [List.eq_nil_of_length_eq_zero h]; rfl
  | m + 1, left, h => by
    have hp := fac_pos m
    have e : fac (m + 1) - 1 = fac m * m + (fac m - 1) := by rw [fac, Nat.succ_mul, Nat.mul_comm]; omega
    have e1 : (fac (m + 1) - 1) / fac m = m := by rw [e, Nat.mul_add_div hp, Nat.div_eq_of_lt (by omega)]; omega
    have e2 : (fac (m + 1) - 1) % fac m = fac m - 1 := by rw [e, Nat.mul_add_mod, Nat.mod_eq_of_lt (by omega)]
    have e3 : left = left.take m ++ [nth left m] := by
      have h1 := List.take_append_drop m left
      rw [List.drop_eq_getElem_cons (by omega), List.drop_of_length_le (by omega), ← nth_eq (by omega)] at h1
      exact h1.symm
    have e4 : left.eraseIdx m = left.take m := by
      rw [List.eraseIdx_eq_take_drop_succ, List.drop_of_length_le (by omega), List.append_nil]
    rw [nthA, e1, e2, e4, nthA_last (by rw [List.length_take]; omega)]
    conv => rhs; rw [e3]
    rw [List.reverse_append]; rfl
theorem turn_falls : ∀ {l : List Int}, l.Pairwise (fun a b => b < a) → turnA l = fac l.length - 1
  | [], _ => rfl
  | x :: l, h => by
    have h1 := List.pairwise_cons.1 h
    have hp := fac_pos l.length
    rw [turnA, turn_falls h1.2, List.countP_eq_length.2 fun w hw => by simpa using h1.1 w hw, List.length_cons, fac, Nat.succ_mul]
    omega
theorem back_falls (n : Nat) : (rangeI n).reverse.Pairwise (fun a b => b < a) := List.pairwise_reverse.2 (rangeI_rises n)
/-- the last order of n places -/
theorem nthI_last (n : Nat) : nthI n (fac n - 1) = (rangeI n).reverse := nthA_last (rangeI_len n)
theorem nthI_0 (n : Nat) : nthI n 0 = rangeI n := nthA_0 (rangeI_len n)
theorem turn_back (n : Nat) : turnA (rangeI n).reverse = fac n - 1 := by rw [turn_falls (back_falls n), List.length_reverse, rangeI_len]
theorem fac_12 : fac 12 = 479001600 := by decide +kernel
theorem fac_mono {m n : Nat} (h : m ≤ n) : fac m ≤ fac n := by
  induction h with
  | refl => exact Nat.le_refl _
  | step _ ih => rw [fac]; exact Nat.le_trans ih (Nat.le_mul_of_pos_left _ (Nat.succ_pos _))
end Go.Proofs.YthlmcfbadhidbaaGreat
/- Heaps in rows, in plain Lean: up, down, the least first. -/
namespace Go.Proofs.YthlmcfbadhidbaaGreat
open Go Go.RowKit
section
variable {α : Type} [Inhabited α] {lt : α → α → Bool}
/-- two places of a row, turned -/
def swapL (X : List α) (i j : Nat) : List α := (X.set i (nth X j)).set j (nth X i)
theorem swapL_len (X : List α) (i j : Nat) : (swapL X i j).length = X.length := by simp [swapL]
theorem nth_setg {X : List α} {i k : Nat} {a : α} (hk : k < X.length) : nth (X.set i a) k = if k = i then a else nth X k := by
  rw [nth_eq (by simpa using hk), List.getElem_set]
  by_cases h : i = k
  · rw [if_pos h, if_pos h.symm]
  · rw [if_neg h, if_neg (fun e => h e.symm), nth_eq hk]
theorem swapL_nth {X : List α} {i j k : Nat} (hk : k < X.length) : nth (swapL X i j) k = if k = j then nth X i else if k = i then nth X j else nth X k := by
  unfold swapL
  rw [nth_setg (by simpa using hk), nth_setg hk]
theorem set_perm {X : List α} : ∀ {i : Nat} {a : α}, i < X.length → (a :: X).Perm (nth X i :: X.set i a) := by
  induction X with
  | nil => intro i a h; cases h
  | cons b X ih =>
    intro i a h
    cases i with
    | zero => rw [nth_eq (by simp)]; exact List.Perm.swap _ _ _
    | succ i =>
      have h' : i < X.length := by simpa using h
      have e : nth (b :: X) (i + 1) = nth X i := by rw [nth_eq (by simpa using h), nth_eq h']; simp
      rw [e, List.set_cons_succ]
      exact (List.Perm.swap _ _ _).trans (((ih h').cons b).trans (List.Perm.swap _ _ _))
theorem swapL_perm {X : List α} {i j : Nat} (hi : i < X.length) (hj : j < X.length) : (swapL X i j).Perm X := by
  have h1 := set_perm (X := X) (i := i) (a := nth X j) hi
  have h2 := set_perm (X := X.set i (nth X j)) (i := j) (a := nth X i) (by simpa using hj)
  have e : nth (X.set i (nth X j)) j = nth X j := by
    rw [nth_eq (by simpa using hj), List.getElem_set]
    by_cases h : i = j
    · rw [if_pos h]
    · rw [if_neg h, nth_eq hj]
  rw [e] at h2
  exact ((h2.symm.trans h1.symm).cons_inv)
/-- the first n are a heap -/
def HeapN (lt : α → α → Bool) (n : Nat) (X : List α) : Prop := ∀ i, 0 < i → i < n → lt (nth X i) (nth X ((i - 1) / 2)) = false
/-- a heap, but for what stands at j, which may be too little -/
def UpH (lt : α → α → Bool) (n j : Nat) (X : List α) : Prop := (∀ i, 0 < i → i < n → i ≠ j → lt (nth X i) (nth X ((i - 1) / 2)) = false) ∧ ∀ i, 0 < i → i < n → (i - 1) / 2 = j → 0 < j → lt (nth X i) (nth X ((j - 1) / 2)) = false
/-- a heap, but for what stands at j, which may be too great -/
def DnH (lt : α → α → Bool) (n j : Nat) (X : List α) : Prop := (∀ i, 0 < i → i < n → (i - 1) / 2 ≠ j → lt (nth X i) (nth X ((i - 1) / 2)) = false) ∧ ∀ i, 0 < i → i < n → (i - 1) / 2 = j → 0 < j → lt (nth X i) (nth X ((j - 1) / 2)) = false
theorem up_start {n : Nat} {X : List α} (h : HeapN lt n X) : UpH lt (n + 1) n X :=
  ⟨fun i h0 h1 h2 => h i h0 (by omega), fun i h0 h1 h2 h3 => by omega⟩
theorem up_end {n j : Nat} {X : List α} (h : UpH lt n j X) (hj : j = 0 ∨ lt (nth X j) (nth X ((j - 1) / 2)) = false) : HeapN lt n X := fun i h0 h1 => by
  by_cases e : i = j
  · subst e
    rcases hj with h2 | h2
    · omega
    · exact h2
  · exact h.1 i h0 h1 e
omit [Inhabited α] in
theorem STO.le_trans (hs : STO lt) {a b c : α} (h1 : lt b a = false) (h2 : lt c b = false) : lt c a = false := by
  cases h : lt c a with
  | false => rfl
  | true => rw [hs.le_lt h2 h] at h1; cases h1
theorem up_step (hs : STO lt) {n j : Nat} {X : List α} (hn : n ≤ X.length) (hj : j < n) (h0 : 0 < j) (h : UpH lt n j X) (hl : lt (nth X j) (nth X ((j - 1) / 2)) = true) : UpH lt n ((j - 1) / 2) (swapL X j ((j - 1) / 2)) := by
  have hp : (j - 1) / 2 < j := by omega
  generalize hpp : (j - 1) / 2 = p at *
  have es : ∀ k, k < n → nth (swapL X j p) k = if k = p then nth X j else if k = j then nth X p else nth X k := fun k hk => swapL_nth (by omega)
  constructor
  · intro i hi1 hi2 hi3
    rw [es i hi2, es ((i - 1) / 2) (by omega), if_neg hi3]
    by_cases e : i = j
    · subst e
      rw [if_pos rfl, hpp, if_pos rfl]
      exact hs.asymm hl
    · rw [if_neg e]
      by_cases e1 : (i - 1) / 2 = p
      · rw [if_pos e1]
        have h2 := h.1 i hi1 hi2 e
        rw [e1] at h2
        exact hs.le_trans (hs.asymm hl) h2
      · rw [if_neg e1]
        by_cases e2 : (i - 1) / 2 = j
        · rw [if_pos e2]
          have := h.2 i hi1 hi2 e2 h0
          rw [hpp] at this; exact this
        · rw [if_neg e2]; exact h.1 i hi1 hi2 e
  · intro i hi1 hi2 hi3 hp0
    have hpp2 : (p - 1) / 2 ≠ p := by omega
    have hpp3 : (p - 1) / 2 ≠ j := by omega
    have hip : i ≠ p := by omega
    rw [es i hi2, es ((p - 1) / 2) (by omega), if_neg hip, if_neg hpp2, if_neg hpp3]
    have hpar := h.1 p hp0 (by omega) (by omega)
    by_cases e : i = j
    · rw [if_pos e]; exact hpar
    · rw [if_neg e]
      have h2 := h.1 i hi1 hi2 e
      rw [hi3] at h2
      exact hs.le_trans hpar h2
theorem dn_start {n : Nat} {X : List α} (hn : X.length = n + 1) (h : HeapN lt (n + 1) X) : DnH lt n 0 (swapL X 0 n) := by
  have es : ∀ k, k < n → 0 < k → nth (swapL X 0 n) k = nth X k := fun k hk h0 => by
    rw [swapL_nth (by omega), if_neg (by omega), if_neg (by omega)]
  exact ⟨fun i h0 h1 h2 => by rw [es i h1 h0, es _ (by omega) (by omega)]; exact h i h0 (by omega), fun i h0 h1 h2 h3 => by omega⟩
theorem dn_leaf {n j : Nat} {X : List α} (h : DnH lt n j X) (hj : n ≤ 2 * j + 1) : HeapN lt n X := fun i h0 h1 => h.1 i h0 h1 (by omega)
/-- c is the least child -/
def LeastC (lt : α → α → Bool) (n j c : Nat) (X : List α) : Prop := c < n ∧ 0 < c ∧ (c - 1) / 2 = j ∧ ∀ k, 0 < k → k < n → (k - 1) / 2 = j → lt (nth X k) (nth X c) = false
theorem least_one (hs : STO lt) {n j : Nat} {X : List α} (h : 2 * j + 1 < n) (h2 : n ≤ 2 * j + 2 ∨ lt (nth X (2 * j + 2)) (nth X (2 * j + 1)) = false) : LeastC lt n j (2 * j + 1) X :=
  ⟨h, by omega, by omega, fun k h0 h1 h3 => by
    have : k = 2 * j + 1 ∨ k = 2 * j + 2 := by omega
    rcases this with rfl | rfl
    · exact hs.irrefl _
    · rcases h2 with h2 | h2
      · omega
      · exact h2⟩
theorem least_two (hs : STO lt) {n j : Nat} {X : List α} (h : 2 * j + 2 < n) (h2 : lt (nth X (2 * j + 2)) (nth X (2 * j + 1)) = true) : LeastC lt n j (2 * j + 2) X :=
  ⟨h, by omega, by omega, fun k h0 h1 h3 => by
    have : k = 2 * j + 1 ∨ k = 2 * j + 2 := by omega
    rcases this with rfl | rfl
    · exact hs.asymm h2
    · exact hs.irrefl _⟩
theorem dn_end (hs : STO lt) {n j c : Nat} {X : List α} (h : DnH lt n j X) (hc : LeastC lt n j c X) (hl : lt (nth X c) (nth X j) = false) : HeapN lt n X := fun i h0 h1 => by
  by_cases e : (i - 1) / 2 = j
  · rw [e]; exact hs.le_trans hl (hc.2.2.2 i h0 h1 e)
  · exact h.1 i h0 h1 e
theorem dn_step (hs : STO lt) {n j c : Nat} {X : List α} (hn : n ≤ X.length) (h : DnH lt n j X) (hc : LeastC lt n j c X) (hl : lt (nth X c) (nth X j) = true) : DnH lt n c (swapL X j c) := by
  obtain ⟨c1, c2, c3, c4⟩ := hc
  have hjc : j < c := by omega
  have es : ∀ k, k < n → nth (swapL X j c) k = if k = c then nth X j else if k = j then nth X c else nth X k := fun k hk => swapL_nth (by omega)
  constructor
  · intro i hi1 hi2 hi3
    rw [es i hi2, es ((i - 1) / 2) (by omega), if_neg hi3]
    by_cases e : i = c
    · subst e
      rw [if_pos rfl, c3, if_pos rfl]
      exact hs.asymm hl
    · rw [if_neg e]
      by_cases e1 : i = j
      · subst e1
        rw [if_pos rfl, if_neg (by omega)]
        exact h.2 c c2 c1 c3 hi1
      · rw [if_neg e1]
        by_cases e2 : (i - 1) / 2 = j
        · rw [if_pos e2]; exact c4 i hi1 hi2 e2
        · rw [if_neg e2]; exact h.1 i hi1 hi2 e2
  · intro i hi1 hi2 hi3 _
    have h1 : i ≠ c := by omega
    have h2 : i ≠ j := by omega
    rw [es i hi2, c3, es j (by omega), if_neg h1, if_neg h2, if_neg (by omega), if_pos rfl]
    have := h.1 i hi1 hi2 (by omega)
    rw [hi3] at this; exact this
theorem heap_min (hs : STO lt) {n : Nat} {X : List α} (h : HeapN lt n X) : ∀ i, i < n → lt (nth X i) (nth X 0) = false := by
  intro i
  induction i using Nat.strongRecOn with
  | _ i ih =>
    intro hi
    by_cases h0 : i = 0
    · subst h0; exact hs.irrefl _
    · exact hs.le_trans (ih ((i - 1) / 2) (by omega) (by omega)) (h i (by omega) hi)
theorem heap_take {n : Nat} {X : List α} (h : HeapN lt n X) (hn : n ≤ X.length) : HeapN lt n (X.take n) := fun i h0 h1 => by
  have e : ∀ k, k < n → nth (X.take n) k = nth X k := fun k hk => by rw [nth_eq (by simp; omega), nth_eq (by omega)]; simp
  rw [e i h1, e _ (by omega)]; exact h i h0 h1
/-- what is taken off a heap: the least; the others -/
theorem pop_perm {n : Nat} {X Y : List α} {m : α} (hX : X.length = n + 1) (hp : Y.Perm X) (hm : nth Y n = m) : (m :: Y.take n).Perm X := by
  have hl : Y.length = n + 1 := by rw [hp.length_eq, hX]
  have e : Y = Y.take n ++ [m] := by
    have h1 := List.take_append_drop n Y
    have h2 : Y.drop n = [m] := by
      rw [← hm, nth_eq (by omega), List.drop_eq_getElem_cons (by omega), List.drop_of_length_le (by omega)]
    rw [h2] at h1; exact h1.symm
  refine List.Perm.trans ?_ hp
  conv => rhs; rw [e]
  exact (List.perm_append_singleton m _).symm
omit [Inhabited α] in
/-- taken off, one after the other, they rise -/
theorem pops_rise (hs : STO lt) {out rest all : List α} (hp : (out ++ rest).Perm all) (hn : all.Nodup) (h1 : Rises lt out) (h2 : ∀ a ∈ out, ∀ b ∈ rest, lt b a = false) {m : α} {rest' : List α} (hr : (m :: rest').Perm rest) (hm : ∀ b ∈ rest, lt b m = false) :
    ((out ++ [m]) ++ rest').Perm all ∧ Rises lt (out ++ [m]) ∧ ∀ a ∈ out ++ [m], ∀ b ∈ rest', lt b a = false := by
  have hp2 : ((out ++ [m]) ++ rest').Perm all := by
    rw [List.append_assoc]
    exact (hr.append_left out).trans hp
  have hnd : (out ++ rest).Nodup := hp.nodup_iff.2 hn
  have hmr : m ∈ rest := hr.mem_iff.1 (List.mem_cons_self ..)
  refine ⟨hp2, ?_, ?_⟩
  · rw [Rises, List.pairwise_append]
    refine ⟨h1, List.pairwise_singleton _ _, fun a ha b hb => ?_⟩
    obtain rfl := List.mem_singleton.1 hb
    cases h : lt a b with
    | true => rfl
    | false =>
      have e := hs.tri a b h (h2 a ha b hmr)
      subst e
      exact absurd rfl ((List.nodup_append.1 hnd).2.2 a ha a hmr)
  · intro a ha b hb
    have hbr : b ∈ rest := hr.mem_iff.1 (List.mem_cons_of_mem _ hb)
    rcases List.mem_append.1 ha with ha | ha
    · exact h2 a ha b hbr
    · obtain rfl := List.mem_singleton.1 ha
      exact hm b hbr
end
end Go.Proofs.YthlmcfbadhidbaaGreat
/- The order of places by their ways (chapter 11), in plain Lean. -/
namespace Go.Proofs.YthlmcfbadhidbaaGreat
open Go Go.RowKit
/-- more ways first; of as many the lesser place -/
def ltW (a b : Int × Int) : Bool := decide (b.2 < a.2) || (decide (a.2 = b.2) && decide (a.1 < b.1))
theorem ltW_iff {a b : Int × Int} : ltW a b = true ↔ b.2 < a.2 ∨ (a.2 = b.2 ∧ a.1 < b.1) := by
  unfold ltW
  rw [Bool.or_eq_true, Bool.and_eq_true, decide_eq_true_eq, decide_eq_true_eq, decide_eq_true_eq]
theorem ltW_no {a b : Int × Int} : ltW a b = false ↔ ¬ (b.2 < a.2 ∨ (a.2 = b.2 ∧ a.1 < b.1)) := by
  rw [← ltW_iff]; simp
theorem stoW : STO ltW where
  irrefl a := by rw [ltW_no]; omega
  trans a b c h k := by rw [ltW_iff] at *; omega
  tri a b h k := by rw [ltW_no] at *; exact Prod.ext (by omega) (by omega)
/-- how many ways a place has -/
def wayN (O R : List Int) (v : Nat) : Int := nth O (v + 1) - nth O v + nth R (v + 1) - nth R v
/-- places with their ways -/
def waysP (O R : List Int) (n : Nat) : List (Int × Int) := (List.range n).map fun v : Nat => ((v : Int), wayN O R v)
theorem waysP_len (O R : List Int) (n : Nat) : (waysP O R n).length = n := by simp [waysP]
theorem waysP_nodup (O R : List Int) (n : Nat) : (waysP O R n).Nodup := by
  unfold waysP
  refine List.Pairwise.map _ (fun a b h e => h ?_) List.nodup_range
  have := congrArg Prod.fst e
  simp only at this
  omega
theorem waysP_mem {O R : List Int} {n : Nat} {x : Int × Int} : x ∈ waysP O R n ↔ ∃ v : Nat, v < n ∧ x = ((v : Int), wayN O R v) := by
  unfold waysP
  rw [List.mem_map]
  constructor
  · rintro ⟨v, h, rfl⟩; exact ⟨v, List.mem_range.1 h, rfl⟩
  · rintro ⟨v, h, rfl⟩; exact ⟨v, List.mem_range.2 h, rfl⟩
theorem waysP_step (O R : List Int) (n : Nat) : waysP O R (n + 1) = waysP O R n ++ [((n : Int), wayN O R n)] := by
  unfold waysP; rw [List.range_succ, List.map_append]; rfl
/-- what the document says: of each number of ways, the greatest first, the places -/
def byP (O R : List Int) (n k : Nat) : List (Int × Int) := (List.range k).flatMap fun i : Nat => ((List.range n).filter fun v => wayN O R v == 4000 - (i : Int)).map fun v : Nat => ((v : Int), wayN O R v)
def byL (O R : List Int) (n : Nat) : List Int := (byP O R n 4001).map (·.1)
theorem byP_step (O R : List Int) (n k : Nat) : byP O R n (k + 1) = byP O R n k ++ ((List.range n).filter fun v => wayN O R v == 4000 - (k : Int)).map fun v : Nat => ((v : Int), wayN O R v) := by
  unfold byP; rw [List.range_succ, List.flatMap_append]; simp
theorem byP_mem {O R : List Int} {n k : Nat} {x : Int × Int} : x ∈ byP O R n k ↔ ∃ v : Nat, v < n ∧ x = ((v : Int), wayN O R v) ∧ wayN O R v ≤ 4000 ∧ 4000 - k < wayN O R v := by
  unfold byP
  rw [List.mem_flatMap]
  constructor
  · rintro ⟨i, hi, hx⟩
    obtain ⟨v, hv, rfl⟩ := List.mem_map.1 hx
    obtain ⟨h1, h2⟩ := List.mem_filter.1 hv
    have hi' := List.mem_range.1 hi
    have h3 : wayN O R v = 4000 - i := by simpa using h2
    exact ⟨v, List.mem_range.1 h1, rfl, by omega, by omega⟩
  · rintro ⟨v, h1, rfl, h2, h3⟩
    refine ⟨(4000 - wayN O R v).toNat, List.mem_range.2 (by omega), List.mem_map.2 ⟨v, List.mem_filter.2 ⟨List.mem_range.2 h1, ?_⟩, rfl⟩⟩
    simp; omega
theorem byP_rises (O R : List Int) (n : Nat) : ∀ k, Rises ltW (byP O R n k)
  | 0 => by simp [byP]
  | k + 1 => by
    rw [byP_step, Rises, List.pairwise_append]
    refine ⟨byP_rises O R n k, ?_, ?_⟩
    · have h : (List.range n).Pairwise (· < ·) := List.pairwise_lt_range
      refine List.Pairwise.map _ (fun a b (hab : a < b ∧ wayN O R a = wayN O R b) => ?_) (R := fun a b => a < b ∧ wayN O R a = wayN O R b) ?_
      · rw [ltW_iff]; right; simp only; omega
      · have h2 := h.filter (fun v => wayN O R v == 4000 - (k : Int))
        refine h2.imp_of_mem fun {a b} ha hb hab => ⟨hab, ?_⟩
        have e1 : wayN O R a = 4000 - k := by simpa using (List.mem_filter.1 ha).2
        have e2 : wayN O R b = 4000 - k := by simpa using (List.mem_filter.1 hb).2
        omega
    · intro a ha b hb
      obtain ⟨v, _, rfl, _, h1⟩ := byP_mem.1 ha
      obtain ⟨u, hu, rfl⟩ := List.mem_map.1 hb
      have e : wayN O R u = 4000 - k := by simpa using (List.mem_filter.1 hu).2
      rw [ltW_iff]; left; simp only; omega
/-- what rises and holds all places is what the document says -/
theorem by_uniq {O R : List Int} {n : Nat} (hw : ∀ v, v < n → 0 ≤ wayN O R v ∧ wayN O R v ≤ 4000) {out : List (Int × Int)} (h1 : Rises ltW out) (hp : out.Perm (waysP O R n)) : out = byP O R n 4001 := by
  refine rises_uniq stoW _ _ h1 (byP_rises O R n 4001) fun x => ?_
  rw [hp.mem_iff, waysP_mem, byP_mem]
  constructor
  · rintro ⟨v, h, rfl⟩
    have := hw v h
    exact ⟨v, h, rfl, by omega, by omega⟩
  · rintro ⟨v, h, rfl, _⟩; exact ⟨v, h, rfl⟩
end Go.Proofs.YthlmcfbadhidbaaGreat
/- Places twice is the order; orders as rows stand (chapter 11), in plain Lean. -/
namespace Go.Proofs.YthlmcfbadhidbaaGreat
open Go Go.RowKit
theorem nth_set_eq (X : List Int) (i : Nat) (x : Int) (h : i < X.length) : nth (X.set i x) i = x := by
  rw [nth_eq (by rw [List.length_set]; exact h), List.getElem_set, if_pos rfl]
theorem nth_set_ne (X : List Int) {i j : Nat} (x : Int) (h : j < X.length) (hne : i ≠ j) : nth (X.set i x) j = nth X j := by
  rw [nth_eq (by rw [List.length_set]; exact h), List.getElem_set, if_neg hne, nth_eq h]
theorem ord_at {l : List Int} {n i : Nat} (h : OrdP l n) (hi : i < n) : 0 ≤ nth l i ∧ nth l i < n := h.2.2 _ (nth_mem (by rw [h.1]; exact hi))
theorem ord_inj {l : List Int} {n i j : Nat} (h : OrdP l n) (hi : i < n) (hj : j < n) (e : nth l i = nth l j) : i = j := by
  rw [nth_eq (by rw [h.1]; exact hi), nth_eq (by rw [h.1]; exact hj)] at e
  exact (List.getElem_inj h.2.1).1 e
theorem posL_at {l : List Int} {n : Nat} (h : OrdP l n) {X : List Int} (hX : X.length = n) : ∀ k, k ≤ n → ∀ i, i < k → nth (posL l k X) (nth l i).toNat = i
  | 0, _, i, hi => by omega
  | k + 1, hk, i, hi => by
    have b1 := ord_at h (i := i) (by omega)
    have b2 := ord_at h (i := k) (by omega)
    have hl := posL_len l k X
    rw [posL_step]
    by_cases e : i = k
    · subst e
      exact nth_set_eq _ _ _ (by rw [hl, hX]; omega)
    · rw [nth_set_ne _ _ (by rw [hl, hX]; omega) fun h' => e (ord_inj h (by omega) (by omega) (by omega))]
      exact posL_at h hX k (by omega) i (by omega)
theorem places_len (l : List Int) : (placesL l).length = l.length := by unfold placesL; rw [posL_len, List.length_replicate]
theorem places_at {l : List Int} {n : Nat} (h : OrdP l n) {i : Nat} (hi : i < n) : nth (placesL l) (nth l i).toNat = i := by
  unfold placesL
  rw [h.1]
  exact posL_at h (by rw [List.length_replicate]) n (Nat.le_refl _) i hi
/-- each place stands somewhere -/
theorem ord_find {l : List Int} {n : Nat} (h : OrdP l n) {v : Nat} (hv : v < n) : ∃ i, i < n ∧ nth l i = v := by
  obtain ⟨i, hi, e⟩ := List.getElem_of_mem (ord_mem h hv)
  exact ⟨i, by rw [← h.1]; exact hi, by rw [nth_eq hi]; exact e⟩
theorem places_ord {l : List Int} {n : Nat} (h : OrdP l n) : OrdP (placesL l) n := by
  have hlen : (placesL l).length = n := by rw [places_len, h.1]
  refine ⟨hlen, ?_, fun x hx => ?_⟩
  · rw [List.nodup_iff_pairwise_ne, List.pairwise_iff_getElem]
    intro i j hi hj hij e
    rw [hlen] at hi hj
    obtain ⟨a, ha, ea⟩ := ord_find h hi
    obtain ⟨b, hb, eb⟩ := ord_find h hj
    have h1 := places_at h ha
    have h2 := places_at h hb
    rw [ea, Int.toNat_natCast, nth_eq (by omega)] at h1
    rw [eb, Int.toNat_natCast, nth_eq (by omega)] at h2
    have : a = b := by omega
    subst this
    omega
  · obtain ⟨i, hi, rfl⟩ := List.getElem_of_mem hx
    rw [hlen] at hi
    obtain ⟨a, ha, ea⟩ := ord_find h hi
    have h1 := places_at h ha
    rw [ea, Int.toNat_natCast, nth_eq (by omega)] at h1
    omega
theorem places_twice {l : List Int} {n : Nat} (h : OrdP l n) : placesL (placesL l) = l := by
  have hp := places_ord h
  have e1 : (placesL (placesL l)).length = l.length := by rw [places_len, places_len]
  refine List.ext_getElem e1 fun i h1 h2 => ?_
  have hi : i < n := by rw [← h.1]; exact h2
  have b := ord_at h hi
  have h3 := places_at h hi
  have h4 := places_at hp (i := (nth l i).toNat) (by omega)
  rw [h3, Int.toNat_natCast, nth_eq h1] at h4
  rw [h4, nth_eq h2]
  rw [nth_eq h2] at b
  omega
/-- places as rows order them: the number of their ways never rises -/
theorem byL_ord {O R : List Int} {n : Nat} (hw : ∀ v, v < n → 0 ≤ wayN O R v ∧ wayN O R v ≤ 4000) : OrdP (byL O R n) n := by
  have hr := byP_rises O R n 4001
  have hmem : ∀ x, x ∈ byP O R n 4001 ↔ x ∈ waysP O R n := fun x => by
    rw [waysP_mem, byP_mem]
    constructor
    · rintro ⟨v, h, rfl, _⟩; exact ⟨v, h, rfl⟩
    · rintro ⟨v, h, rfl⟩
      have := hw v h
      exact ⟨v, h, rfl, by omega, by omega⟩
  have hnd : (byP O R n 4001).Nodup := hr.imp fun {a b} h e => by subst e; rw [stoW.irrefl] at h; cases h
  have hlen : (byP O R n 4001).length = n := by
    have h1 := hnd.length_le_of_subset (l₂ := waysP O R n) fun x hx => (hmem x).1 hx
    have h2 := (waysP_nodup O R n).length_le_of_subset (l₂ := byP O R n 4001) fun x hx => (hmem x).2 hx
    rw [waysP_len] at h1 h2
    omega
  refine ⟨by unfold byL; rw [List.length_map, hlen], ?_, fun x hx => ?_⟩
  · unfold byL
    refine List.Pairwise.map _ (fun a b h => h) (R := fun a b => a.1 ≠ b.1) ?_
    rw [List.nodup_iff_pairwise_ne] at hnd
    refine hnd.imp_of_mem fun {a b} ha hb hne e => ?_
    obtain ⟨v, _, rfl⟩ := waysP_mem.1 ((hmem a).1 ha)
    obtain ⟨u, _, rfl⟩ := waysP_mem.1 ((hmem b).1 hb)
    simp only at e
    have : v = u := by omega
    subst this
    exact hne rfl
  · unfold byL at hx
    obtain ⟨y, hy, rfl⟩ := List.mem_map.1 hx
    obtain ⟨v, hv, rfl⟩ := waysP_mem.1 ((hmem y).1 hy)
    simp only
    omega
theorem byL_falls {O R : List Int} {n i : Nat} (h : i + 1 < (byL O R n).length) : ∃ v u : Nat, v < n ∧ u < n ∧ nth (byL O R n) i = v ∧ nth (byL O R n) (i + 1) = u ∧ (wayN O R u < wayN O R v ∨ (wayN O R v = wayN O R u ∧ v < u)) := by
  have hl : i + 1 < (byP O R n 4001).length := by unfold byL at h; rwa [List.length_map] at h
  have hr := List.pairwise_iff_getElem.1 (byP_rises O R n 4001) i (i + 1) (by omega) hl (by omega)
  obtain ⟨v, hv, e1, _⟩ := byP_mem.1 (List.getElem_mem (show i < (byP O R n 4001).length by omega))
  obtain ⟨u, hu, e2, _⟩ := byP_mem.1 (List.getElem_mem hl)
  rw [e1, e2, ltW_iff] at hr
  refine ⟨v, u, hv, hu, ?_, ?_, ?_⟩
  · unfold byL
    rw [nth_eq (by rw [List.length_map]; omega), List.getElem_map, e1]
  · unfold byL
    rw [nth_eq (by rw [List.length_map]; omega), List.getElem_map, e2]
  · simp only at hr; omega
end Go.Proofs.YthlmcfbadhidbaaGreat
