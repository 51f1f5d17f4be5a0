/- Texts of this claim, one behind the other: Ref5, Spec4, PlainHp, PlainL, PlainBF, PlainD, Ref5b, Own5, SortT, PlainMk, PlainA, PlainB, PlainP8, PlainR, Rng, It4, It4b, Half4, Half4b, Chk4, Chk4b, Out4, Laid4, G2, G9, G11, GT, Big2, G10, Mk4, PlainR2, PlainN, PlainBy, Hp1, OwnSm, Hp3, KeepS, Pg2, PlainPq. -/
import Derived.RangeFuncNested
import Derived.RangeFuncBound
import Derived.RangeFuncCalls
import Derived.RangeFuncLeaves
import Derived.Sort.QuietThIn
import Derived.OwnWalkIn
import Derived.TacticsInMore
import Derived.LoopNIn
import Derived.LoopIn
import Derived.Test.YtkekibnhmfmhmaaLay
import Derived.Shelf.Abstract
import Derived.WalkKit
import Derived.OwnWalk
import Derived.Handy
import Derived.Test.YtkekibnhmfmhmaaQProgHits1
/- The reference's answers of chapter 5: In, Both, All, Any; Ints. -/
namespace Go.Proofs.Ytkekibnhmfmhmaa
open Go Go.RowKit Go.Maps
def inB (l : List Int) (x : Int) : Bool := l.any fun y => y == x
theorem inB_iff (l : List Int) (x : Int) : inB l x = true ↔ x ∈ l := by unfold inB; simp
def bothS (a b : List Int) : List Int := putAll ltI (a.filter (inB b))
theorem filter_take_succ {α : Type} [Inhabited α] (f : α → Bool) (l : List α) (k : Nat) (h : k < l.length) : (l.take (k + 1)).filter f = (l.take k).filter f ++ (if f (nth l k) then [nth l k] else []) := by
  rw [take_succ_nth l k h, List.filter_append, List.filter_cons]; rfl
theorem filter_len_le {α : Type} (f : α → Bool) (l : List α) (k : Nat) : ((l.take k).filter f).length ≤ k := Nat.le_trans (List.length_filter_le _ _) (by rw [List.length_take]; omega)
end Go.Proofs.Ytkekibnhmfmhmaa
/- Rows: what the chapter says of offsets and numbers. No program in sight. -/
namespace Go.Proofs.Ytkekibnhmfmhmaa
open Go Go.RowKit
theorem nth_mem {α : Type} [Inhabited α] {l : List α} {k : Nat} (h : k < l.length) : nth l k ∈ l := by rw [nth_eq h]; exact List.getElem_mem _
theorem rises_nth {l : List Int} (h : Rises ltI l) {k : Nat} (hk : k + 1 < l.length) : nth l k < nth l (k + 1) := by
  rw [nth_eq (by omega), nth_eq hk]
  have := List.pairwise_iff_getElem.1 h k (k + 1) (by omega) hk (by omega)
  simpa [ltI] using this
/-- a place's row -/
def rowL (O T : List Int) (v : Nat) : List Int := (T.drop (nth O v).toNat).take ((nth O (v + 1)).toNat - (nth O v).toNat)
def rowX (O T : List Int) (v : Nat) : List (Int × Int) := (rowL O T v).map fun x => ((v : Int), x)
/-- the pairs of the first k places -/
def pairsK (O T : List Int) (k : Nat) : List (Int × Int) := (List.range k).flatMap (rowX O T)
def pairs (O T : List Int) : List (Int × Int) := pairsK O T (O.length - 1)
theorem pairsK_step (O T : List Int) (k : Nat) : pairsK O T (k + 1) = pairsK O T k ++ rowX O T k := by
  unfold pairsK; rw [List.range_succ, List.flatMap_append]; simp
/-- offsets that can be gone through -/
structure OffOk (O T : List Int) : Prop where
  two : 2 ≤ O.length
  lo : ∀ v, v < O.length → 0 ≤ nth O v
  hi : ∀ v, v < O.length → nth O v ≤ T.length
  le : ∀ v, v + 1 < O.length → nth O v ≤ nth O (v + 1)
theorem rowL_len {O T : List Int} (h : OffOk O T) {v : Nat} (hv : v + 1 < O.length) : (rowL O T v).length = (nth O (v + 1)).toNat - (nth O v).toNat := by
  have h1 := h.hi (v + 1) hv
  unfold rowL
  rw [List.length_take, List.length_drop]
  omega
theorem rowL_nth {O T : List Int} {v j : Nat} (hj : j < (rowL O T v).length) : nth (rowL O T v) j = nth T ((nth O v).toNat + j) := by
  have hl : (nth O v).toNat + j < T.length := by unfold rowL at hj; rw [List.length_take, List.length_drop] at hj; omega
  rw [nth_eq hj, nth_eq hl]
  simp only [rowL, List.getElem_take, List.getElem_drop]
/-- numbers of a row rise, each of 0 to n-1 -/
def okRow (n : Int) (l : List Int) : Bool := (List.range l.length).all (okAt n l)
theorem okRow_iff {n : Int} {l : List Int} : okRow n l = true ↔ (∀ x ∈ l, 0 ≤ x ∧ x < n) ∧ Rises ltI l := by
  unfold okRow
  rw [List.all_eq_true]
  constructor
  · intro h
    have h1 : ∀ i, i < l.length → okAt n l i = true := fun i hi => h i (List.mem_range.2 hi)
    refine ⟨fun x hx => ?_, ?_⟩
    · obtain ⟨i, hi, rfl⟩ := List.mem_iff_getElem.1 hx
      have := h1 i hi
      unfold okAt at this
      rw [nth_eq hi] at this
      simp only [Bool.and_eq_true, decide_eq_true_eq] at this
      exact this.1
    · rw [← rise_iff stoI]
      unfold riseB
      rw [List.all_eq_true]
      intro i hi
      rw [List.mem_range] at hi
      have := h1 (i + 1) (by omega)
      unfold okAt at this
      unfold riseAt ltI
      simp at this ⊢
      exact this.2
  · rintro ⟨h1, h2⟩ i hi
    rw [List.mem_range] at hi
    have h3 := h1 _ (nth_mem hi)
    unfold okAt
    rw [decide_eq_true h3.1, decide_eq_true h3.2]
    rcases Nat.eq_zero_or_pos i with h4 | h4
    · simp [h4]
    · have := rises_nth h2 (k := i - 1) (by omega)
      rw [show i - 1 + 1 = i by omega] at this
      simp [this]
def sortB (O : List Int) : Bool := (List.range (O.length - 1)).all fun v => decide (nth O v ≤ nth O (v + 1))
def offB (O T : List Int) : Bool := decide (2 ≤ O.length) && decide (O.length ≤ 201) && decide (T.length ≤ 2000) && decide (nth O 0 = 0) && decide (nth O (O.length - 1) = T.length) && sortB O
def halfB (O T : List Int) : Bool := offB O T && (List.range (O.length - 1)).all fun v => okRow ((O.length - 1 : Nat) : Int) (rowL O T v)
theorem sortB_at {O : List Int} (h : sortB O = true) {v : Nat} (hv : v + 1 < O.length) : nth O v ≤ nth O (v + 1) := by
  unfold sortB at h
  have := List.all_eq_true.1 h v (List.mem_range.2 (by omega))
  simpa using this
theorem sortB_le {O : List Int} (h : sortB O = true) : ∀ (d v : Nat), v + d < O.length → nth O v ≤ nth O (v + d)
  | 0, v, _ => Int.le_refl _
  | d + 1, v, hv => Int.le_trans (sortB_le h d v (by omega)) (sortB_at h (by omega))
theorem offB_parts {O T : List Int} (h : offB O T = true) : 2 ≤ O.length ∧ O.length ≤ 201 ∧ T.length ≤ 2000 ∧ nth O 0 = 0 ∧ nth O (O.length - 1) = T.length ∧ sortB O = true := by
  unfold offB at h
  simp only [Bool.and_eq_true, decide_eq_true_eq] at h
  obtain ⟨⟨⟨⟨⟨h1, h2⟩, h3⟩, h4⟩, h5⟩, h6⟩ := h
  exact ⟨h1, h2, h3, h4, h5, h6⟩
theorem offOk_of {O T : List Int} (h : offB O T = true) : OffOk O T := by
  obtain ⟨h1, h2, h3, h4, h5, h6⟩ := offB_parts h
  refine ⟨h1, fun v hv => ?_, fun v hv => ?_, fun v hv => sortB_at h6 hv⟩
  · have := sortB_le h6 v 0 (by omega)
    rw [h4, Nat.zero_add] at this; exact this
  · have := sortB_le h6 (O.length - 1 - v) v (by omega)
    rw [show v + (O.length - 1 - v) = O.length - 1 by omega, h5] at this; exact this
/-- are rows right? -/
def checkR (O T R V : List Int) : Bool :=
  decide (O.length = R.length) && decide (T.length = V.length) && halfB O T && halfB R V && (pairs O T).all fun x => inB (rowL R V x.2.toNat) x.1
/-! ### one number behind the other -/
def okStep (n : Int) (p x : Int × Int) : Bool := decide (0 ≤ x.2) && decide (x.2 < n) && !(decide (x.1 = p.1) && decide (x.2 ≤ p.2))
def okFrom (n : Int) : Int × Int → List (Int × Int) → Bool
  | _, [] => true
  | p, x :: l => okStep n p x && okFrom n x l
def lastP : Int × Int → List (Int × Int) → Int × Int
  | p, [] => p
  | _, x :: l => lastP x l
theorem lastP_append (p : Int × Int) : ∀ (l m : List (Int × Int)), lastP p (l ++ m) = lastP (lastP p l) m
  | [], _ => rfl
  | x :: l, m => by rw [List.cons_append, lastP, lastP, lastP_append x l m]
  termination_by l => l.length
theorem okFrom_append (n : Int) : ∀ (l : List (Int × Int)) (p : Int × Int) (m : List (Int × Int)), okFrom n p (l ++ m) = (okFrom n p l && okFrom n (lastP p l) m)
  | [], p, m => by simp [okFrom, lastP]
  | x :: l, p, m => by rw [List.cons_append, okFrom, okFrom, okFrom_append n l x m, lastP, Bool.and_assoc]
theorem okFrom_snoc (n : Int) (p : Int × Int) (l : List (Int × Int)) (x : Int × Int) : okFrom n p (l ++ [x]) = (okFrom n p l && okStep n (lastP p l) x) := by
  rw [okFrom_append]; simp [okFrom]
theorem lastP_snoc (p : Int × Int) (l : List (Int × Int)) (x : Int × Int) : lastP p (l ++ [x]) = x := by rw [lastP_append]; rfl
theorem okFrom_no {n : Int} {p : Int × Int} {l m : List (Int × Int)} (h : okFrom n p l = false) (hp : l <+: m) : okFrom n p m = false := by
  obtain ⟨t, rfl⟩ := hp
  rw [okFrom_append, h]; rfl
/-- one row, behind a pair of its own place -/
theorem okFrom_same (n v : Int) : ∀ (l : List Int) (y : Int), okFrom n (v, y) (l.map fun x => (v, x)) = true ↔ (∀ x ∈ l, 0 ≤ x ∧ x < n) ∧ Rises ltI (y :: l)
  | [], y => by simp [okFrom, Rises]
  | x :: l, y => by
    rw [List.map_cons, okFrom, Bool.and_eq_true, okFrom_same n v l x]
    unfold okStep
    simp only [decide_true, Bool.true_and, Bool.and_eq_true, decide_eq_true_eq, Bool.not_eq_true', decide_eq_false_iff_not]
    constructor
    · rintro ⟨⟨⟨h1, h2⟩, h3⟩, h4, h5⟩
      refine ⟨fun z hz => ?_, ?_⟩
      · rcases List.mem_cons.1 hz with rfl | hz
        · exact ⟨h1, h2⟩
        · exact h4 z hz
      · refine List.pairwise_cons.2 ⟨fun z hz => ?_, h5⟩
        rcases List.mem_cons.1 hz with rfl | hz
        · simp [ltI]; omega
        · have := (List.pairwise_cons.1 h5).1 z hz
          simp [ltI] at this ⊢; omega
    · rintro ⟨h1, h2⟩
      obtain ⟨h3, h4⟩ := List.pairwise_cons.1 h2
      have := h3 x (by simp)
      simp [ltI] at this
      exact ⟨⟨h1 x (by simp), by omega⟩, fun z hz => h1 z (by simp [hz]), h4⟩
theorem okFrom_row {n v : Int} {p : Int × Int} (hp : p.1 ≠ v) (l : List Int) : okFrom n p (l.map fun x => (v, x)) = okRow n l := by
  rw [Bool.eq_iff_iff, okRow_iff]
  cases l with
  | nil => simp [okFrom, Rises]
  | cons x l =>
    rw [List.map_cons, okFrom, Bool.and_eq_true, okFrom_same n v l x]
    unfold okStep
    have hne : decide (v = p.1) = false := by simp; exact fun e => hp e.symm
    simp only [hne, Bool.false_and, Bool.not_false, Bool.and_true, Bool.and_eq_true, decide_eq_true_eq]
    constructor
    · rintro ⟨h1, h2, h3⟩
      exact ⟨fun z hz => (List.mem_cons.1 hz).elim (fun e => e ▸ h1) (h2 z), h3⟩
    · rintro ⟨h1, h2⟩
      exact ⟨h1 x (by simp), fun z hz => h1 z (by simp [hz]), h2⟩
theorem lastP_row (p : Int × Int) (v : Int) : ∀ l : List Int, (lastP p (l.map fun x => (v, x))).1 = if l = [] then p.1 else v
  | [] => rfl
  | x :: l => by
    rw [List.map_cons, lastP, lastP_row (v, x) v l]
    by_cases h : l = [] <;> simp [h]
theorem lastP_lt (O T : List Int) : ∀ k : Nat, (lastP (-1, 0) (pairsK O T k)).1 < k
  | 0 => by simp [pairsK, lastP]
  | k + 1 => by
    rw [pairsK_step, lastP_append]
    unfold rowX
    rw [lastP_row]
    have := lastP_lt O T k
    split <;> omega
/-- all pairs, one behind the other, are right just if each row is -/
theorem okFrom_pairs (n : Int) (O T : List Int) : ∀ k : Nat, okFrom n (-1, 0) (pairsK O T k) = (List.range k).all fun v => okRow n (rowL O T v)
  | 0 => rfl
  | k + 1 => by
    rw [pairsK_step, okFrom_append, okFrom_pairs n O T k, List.range_succ, List.all_append]
    congr 1
    unfold rowX
    rw [okFrom_row (by have := lastP_lt O T k; omega)]
    simp
theorem halfB_pairs {O T : List Int} (h : offB O T = true) : halfB O T = okFrom ((O.length - 1 : Nat) : Int) (-1, 0) (pairs O T) := by
  unfold halfB pairs
  rw [h, okFrom_pairs, Bool.true_and]
theorem rowL_I64 {O T : List Int} {v : Nat} (h : ∀ x ∈ T, I64 x) : ∀ x ∈ rowL O T v, I64 x := fun x hx => h x (List.mem_of_mem_drop (List.mem_of_mem_take hx))
theorem mem_pairs {O T : List Int} {x : Int × Int} : x ∈ pairs O T ↔ ∃ v, v < O.length - 1 ∧ x.1 = (v : Int) ∧ x.2 ∈ rowL O T v := by
  unfold pairs pairsK rowX
  simp only [List.mem_flatMap, List.mem_range, List.mem_map]
  constructor
  · rintro ⟨v, h1, y, h2, rfl⟩; exact ⟨v, h1, rfl, h2⟩
  · rintro ⟨v, h1, h2, h3⟩; exact ⟨v, h1, x.2, h3, by rw [← h2]⟩
end Go.Proofs.Ytkekibnhmfmhmaa
/- Heaps in rows, in plain Lean: up, down, the least first. -/
namespace Go.Proofs.Ytkekibnhmfmhmaa
open Go Go.RowKit
section
variable {α : Type} [Inhabited α] {lt : α → α → Bool}
/-- two places of a row, turned -/
def swapL (X : List α) (i j : Nat) : List α := (X.set i (nth X j)).set j (nth X i)
theorem swapL_len (X : List α) (i j : Nat) : (swapL X i j).length = X.length := by simp [swapL]
theorem nth_setg {X : List α} {i k : Nat} {a : α} (hk : k < X.length) : nth (X.set i a) k = if k = i then a else nth X k := by
  rw [nth_eq (by simpa using hk), List.getElem_set]
  by_cases h : i = k
  · rw [if_pos h, if_pos h.symm]
  · rw [if_neg h, if_neg (fun e => h e.symm), nth_eq hk]
theorem swapL_nth {X : List α} {i j k : Nat} (hk : k < X.length) : nth (swapL X i j) k = if k = j then nth X i else if k = i then nth X j else nth X k := by
  unfold swapL
  rw [nth_setg (by simpa using hk), nth_setg hk]
theorem set_perm {X : List α} : ∀ {i : Nat} {a : α}, i < X.length → (a :: X).Perm (nth X i :: X.set i a) := by
  induction X with
  | nil => intro i a h; cases h
  | cons b X ih =>
    intro i a h
    cases i with
    | zero => rw [nth_eq (by simp)]; exact List.Perm.swap _ _ _
    | succ i =>
      have h' : i < X.length := by simpa using h
      have e : nth (b :: X) (i + 1) = nth X i := by rw [nth_eq (by simpa using h), nth_eq h']; simp
      rw [e, List.set_cons_succ]
      exact (List.Perm.swap _ _ _).trans (((ih h').cons b).trans (List.Perm.swap _ _ _))
theorem swapL_perm {X : List α} {i j : Nat} (hi : i < X.length) (hj : j < X.length) : (swapL X i j).Perm X := by
  have h1 := set_perm (X := X) (i := i) (a := nth X j) hi
  have h2 := set_perm (X := X.set i (nth X j)) (i := j) (a := nth X i) (by simpa using hj)
  have e : nth (X.set i (nth X j)) j = nth X j := by
    rw [nth_eq (by simpa using hj), List.getElem_set]
    by_cases h : i = j
    · rw [if_pos h]
    · rw [if_neg h, nth_eq hj]
  rw [e] at h2
  exact ((h2.symm.trans h1.symm).cons_inv)
/-- the first n are a heap -/
def HeapN (lt : α → α → Bool) (n : Nat) (X : List α) : Prop := ∀ i, 0 < i → i < n → lt (nth X i) (nth X ((i - 1) / 2)) = false
/-- a heap, but for what stands at j, which may be too little -/
def UpH (lt : α → α → Bool) (n j : Nat) (X : List α) : Prop := (∀ i, 0 < i → i < n → i ≠ j → lt (nth X i) (nth X ((i - 1) / 2)) = false) ∧ ∀ i, 0 < i → i < n → (i - 1) / 2 = j → 0 < j → lt (nth X i) (nth X ((j - 1) / 2)) = false
/-- a heap, but for what stands at j, which may be too great -/
def DnH (lt : α → α → Bool) (n j : Nat) (X : List α) : Prop := (∀ i, 0 < i → i < n → (i - 1) / 2 ≠ j → lt (nth X i) (nth X ((i - 1) / 2)) = false) ∧ ∀ i, 0 < i → i < n → (i - 1) / 2 = j → 0 < j → lt (nth X i) (nth X ((j - 1) / 2)) = false
theorem up_start {n : Nat} {X : List α} (h : HeapN lt n X) : UpH lt (n + 1) n X :=
  ⟨fun i h0 h1 h2 => h i h0 (by omega), fun i h0 h1 h2 h3 => by omega⟩
theorem up_end {n j : Nat} {X : List α} (h : UpH lt n j X) (hj : j = 0 ∨ lt (nth X j) (nth X ((j - 1) / 2)) = false) : HeapN lt n X := fun i h0 h1 => by
  by_cases e : i = j
  · subst e
    rcases hj with h2 | h2
    · omega
    · exact h2
  · exact h.1 i h0 h1 e
omit [Inhabited α] in
theorem STO.le_trans (hs : STO lt) {a b c : α} (h1 : lt b a = false) (h2 : lt c b = false) : lt c a = false := by
  cases h : lt c a with
  | false => rfl
  | true => rw [hs.le_lt h2 h] at h1; cases h1
theorem up_step (hs : STO lt) {n j : Nat} {X : List α} (hn : n ≤ X.length) (hj : j < n) (h0 : 0 < j) (h : UpH lt n j X) (hl : lt (nth X j) (nth X ((j - 1) / 2)) = true) : UpH lt n ((j - 1) / 2) (swapL X j ((j - 1) / 2)) := by
  have hp : (j - 1) / 2 < j := by omega
  generalize hpp : (j - 1) / 2 = p at *
  have es : ∀ k, k < n → nth (swapL X j p) k = if k = p then nth X j else if k = j then nth X p else nth X k := fun k hk => swapL_nth (by omega)
  constructor
  · intro i hi1 hi2 hi3
    rw [es i hi2, es ((i - 1) / 2) (by omega), if_neg hi3]
    by_cases e : i = j
    · subst e
      rw [if_pos rfl, hpp, if_pos rfl]
      exact hs.asymm hl
    · rw [if_neg e]
      by_cases e1 : (i - 1) / 2 = p
      · rw [if_pos e1]
        have h2 := h.1 i hi1 hi2 e
        rw [e1] at h2
        exact hs.le_trans (hs.asymm hl) h2
      · rw [if_neg e1]
        by_cases e2 : (i - 1) / 2 = j
        · rw [if_pos e2]
          have := h.2 i hi1 hi2 e2 h0
          rw [hpp] at this; exact this
        · rw [if_neg e2]; exact h.1 i hi1 hi2 e
  · intro i hi1 hi2 hi3 hp0
    have hpp2 : (p - 1) / 2 ≠ p := by omega
    have hpp3 : (p - 1) / 2 ≠ j := by omega
    have hip : i ≠ p := by omega
    rw [es i hi2, es ((p - 1) / 2) (by omega), if_neg hip, if_neg hpp2, if_neg hpp3]
    have hpar := h.1 p hp0 (by omega) (by omega)
    by_cases e : i = j
    · rw [if_pos e]; exact hpar
    · rw [if_neg e]
      have h2 := h.1 i hi1 hi2 e
      rw [hi3] at h2
      exact hs.le_trans hpar h2
theorem dn_start {n : Nat} {X : List α} (hn : X.length = n + 1) (h : HeapN lt (n + 1) X) : DnH lt n 0 (swapL X 0 n) := by
  have es : ∀ k, k < n → 0 < k → nth (swapL X 0 n) k = nth X k := fun k hk h0 => by
    rw [swapL_nth (by omega), if_neg (by omega), if_neg (by omega)]
  exact ⟨fun i h0 h1 h2 => by rw [es i h1 h0, es _ (by omega) (by omega)]; exact h i h0 (by omega), fun i h0 h1 h2 h3 => by omega⟩
theorem dn_leaf {n j : Nat} {X : List α} (h : DnH lt n j X) (hj : n ≤ 2 * j + 1) : HeapN lt n X := fun i h0 h1 => h.1 i h0 h1 (by omega)
/-- c is the least child -/
def LeastC (lt : α → α → Bool) (n j c : Nat) (X : List α) : Prop := c < n ∧ 0 < c ∧ (c - 1) / 2 = j ∧ ∀ k, 0 < k → k < n → (k - 1) / 2 = j → lt (nth X k) (nth X c) = false
theorem least_one (hs : STO lt) {n j : Nat} {X : List α} (h : 2 * j + 1 < n) (h2 : n ≤ 2 * j + 2 ∨ lt (nth X (2 * j + 2)) (nth X (2 * j + 1)) = false) : LeastC lt n j (2 * j + 1) X :=
  ⟨h, by omega, by omega, fun k h0 h1 h3 => by
    have : k = 2 * j + 1 ∨ k = 2 * j + 2 := by omega
    rcases this with rfl | rfl
    · exact hs.irrefl _
    · rcases h2 with h2 | h2
      · omega
      · exact h2⟩
theorem least_two (hs : STO lt) {n j : Nat} {X : List α} (h : 2 * j + 2 < n) (h2 : lt (nth X (2 * j + 2)) (nth X (2 * j + 1)) = true) : LeastC lt n j (2 * j + 2) X :=
  ⟨h, by omega, by omega, fun k h0 h1 h3 => by
    have : k = 2 * j + 1 ∨ k = 2 * j + 2 := by omega
    rcases this with rfl | rfl
    · exact hs.asymm h2
    · exact hs.irrefl _⟩
theorem dn_end (hs : STO lt) {n j c : Nat} {X : List α} (h : DnH lt n j X) (hc : LeastC lt n j c X) (hl : lt (nth X c) (nth X j) = false) : HeapN lt n X := fun i h0 h1 => by
  by_cases e : (i - 1) / 2 = j
  · rw [e]; exact hs.le_trans hl (hc.2.2.2 i h0 h1 e)
  · exact h.1 i h0 h1 e
theorem dn_step (hs : STO lt) {n j c : Nat} {X : List α} (hn : n ≤ X.length) (h : DnH lt n j X) (hc : LeastC lt n j c X) (hl : lt (nth X c) (nth X j) = true) : DnH lt n c (swapL X j c) := by
  obtain ⟨c1, c2, c3, c4⟩ := hc
  have hjc : j < c := by omega
  have es : ∀ k, k < n → nth (swapL X j c) k = if k = c then nth X j else if k = j then nth X c else nth X k := fun k hk => swapL_nth (by omega)
  constructor
  · intro i hi1 hi2 hi3
    rw [es i hi2, es ((i - 1) / 2) (by omega), if_neg hi3]
    by_cases e : i = c
    · subst e
      rw [if_pos rfl, c3, if_pos rfl]
      exact hs.asymm hl
    · rw [if_neg e]
      by_cases e1 : i = j
      · subst e1
        rw [if_pos rfl, if_neg (by omega)]
        exact h.2 c c2 c1 c3 hi1
      · rw [if_neg e1]
        by_cases e2 : (i - 1) / 2 = j
        · rw [if_pos e2]; exact c4 i hi1 hi2 e2
        · rw [if_neg e2]; exact h.1 i hi1 hi2 e2
  · intro i hi1 hi2 hi3 _
    have h1 : i ≠ c := by omega
    have h2 : i ≠ j := by omega
    rw [es i hi2, c3, es j (by omega), if_neg h1, if_neg h2, if_neg (by omega), if_pos rfl]
    have := h.1 i hi1 hi2 (by omega)
    rw [hi3] at this; exact this
theorem heap_min (hs : STO lt) {n : Nat} {X : List α} (h : HeapN lt n X) : ∀ i, i < n → lt (nth X i) (nth X 0) = false := by
  intro i
  induction i using Nat.strongRecOn with
  | _ i ih =>
    intro hi
    by_cases h0 : i = 0
    · subst h0; exact hs.irrefl _
    · exact hs.le_trans (ih ((i - 1) / 2) (by omega) (by omega)) (h i (by omega) hi)
theorem heap_take {n : Nat} {X : List α} (h : HeapN lt n X) (hn : n ≤ X.length) : HeapN lt n (X.take n) := fun i h0 h1 => by
  have e : ∀ k, k < n → nth (X.take n) k = nth X k := fun k hk => by rw [nth_eq (by simp; omega), nth_eq (by omega)]; simp
  rw [e i h1, e _ (by omega)]; exact h i h0 h1
/-- what is taken off a heap: the least; the others -/
theorem pop_perm {n : Nat} {X Y : List α} {m : α} (hX : X.length = n + 1) (hp : Y.Perm X) (hm : nth Y n = m) : (m :: Y.take n).Perm X := by
  have hl : Y.length = n + 1 := by rw [hp.length_eq, hX]
  have e : Y = Y.take n ++ [m] := by
    have h1 := List.take_append_drop n Y
    have h2 : Y.drop n = [m] := by
      rw [← hm, nth_eq (by omega), List.drop_eq_getElem_cons (by omega), List.drop_of_length_le (by omega)]
    rw [h2] at h1; exact h1.symm
  refine List.Perm.trans ?_ hp
  conv => rhs; rw [e]
  exact (List.perm_append_singleton m _).symm
omit [Inhabited α] in
/-- taken off, one after the other, they rise -/
theorem pops_rise (hs : STO lt) {out rest all : List α} (hp : (out ++ rest).Perm all) (hn : all.Nodup) (h1 : Rises lt out) (h2 : ∀ a ∈ out, ∀ b ∈ rest, lt b a = false) {m : α} {rest' : List α} (hr : (m :: rest').Perm rest) (hm : ∀ b ∈ rest, lt b m = false) :
    ((out ++ [m]) ++ rest').Perm all ∧ Rises lt (out ++ [m]) ∧ ∀ a ∈ out ++ [m], ∀ b ∈ rest', lt b a = false := by
  have hp2 : ((out ++ [m]) ++ rest').Perm all := by
    rw [List.append_assoc]
    exact (hr.append_left out).trans hp
  have hnd : (out ++ rest).Nodup := hp.nodup_iff.2 hn
  have hmr : m ∈ rest := hr.mem_iff.1 (List.mem_cons_self ..)
  refine ⟨hp2, ?_, ?_⟩
  · rw [Rises, List.pairwise_append]
    refine ⟨h1, List.pairwise_singleton _ _, fun a ha b hb => ?_⟩
    obtain rfl := List.mem_singleton.1 hb
    cases h : lt a b with
    | true => rfl
    | false =>
      have e := hs.tri a b h (h2 a ha b hmr)
      subst e
      exact absurd rfl ((List.nodup_append.1 hnd).2.2 a ha a hmr)
  · intro a ha b hb
    have hbr : b ∈ rest := hr.mem_iff.1 (List.mem_cons_of_mem _ hb)
    rcases List.mem_append.1 ha with ha | ha
    · exact h2 a ha b hbr
    · obtain rfl := List.mem_singleton.1 ha
      exact hm b hbr
end
end Go.Proofs.Ytkekibnhmfmhmaa
/- Levels: how far places are from one place, in plain words; what just one row of numbers fulfils. -/
namespace Go.Proofs.Ytkekibnhmfmhmaa
open Go Go.RowKit
/-- a walk of just k ways leads to a place -/
def wk (nx : Nat → List Int) (n s : Nat) : Nat → Nat → Bool
  | 0, v => v == s
  | k + 1, v => (List.range n).any fun u => wk nx n s k u && (nx u).contains (v : Int)
/-- how far a place is; -1: no walk leads to it -/
def lev (nx : Nat → List Int) (n s v : Nat) : Int := match (List.range n).find? (fun k => wk nx n s k v) with | some k => (k : Int) | none => -1
/-- what levels fulfil -/
structure LevOk (nx : Nat → List Int) (n s : Nat) (f : Nat → Int) : Prop where
  ge : ∀ v, v < n → -1 ≤ f v
  zero : ∀ v, v < n → (f v = 0 ↔ v = s)
  next : ∀ u v, u < n → v < n → (v : Int) ∈ nx u → 0 ≤ f u → 0 ≤ f v ∧ f v ≤ f u + 1
  pred : ∀ v, v < n → 0 < f v → ∃ u, u < n ∧ f u = f v - 1 ∧ (v : Int) ∈ nx u
theorem wk_succ {nx : Nat → List Int} {n s k v : Nat} : wk nx n s (k + 1) v = true ↔ ∃ u, u < n ∧ wk nx n s k u = true ∧ (v : Int) ∈ nx u := by
  simp [wk]
theorem LevOk.of_wk {nx : Nat → List Int} {n s : Nat} {f : Nat → Int} (h : LevOk nx n s f) (hs : s < n) : ∀ k v, v < n → wk nx n s k v = true → 0 ≤ f v ∧ f v ≤ k
  | 0, v, hv, hk => by
    have : v = s := by simpa [wk] using hk
    have := (h.zero v hv).2 this
    omega
  | k + 1, v, hv, hk => by
    obtain ⟨u, hu, h1, h2⟩ := wk_succ.1 hk
    have h3 := h.of_wk hs k u hu h1
    have h4 := h.next u v hu hv h2 h3.1
    omega
theorem LevOk.wk {nx : Nat → List Int} {n s : Nat} {f : Nat → Int} (h : LevOk nx n s f) : ∀ (k v : Nat), v < n → f v = k → wk nx n s k v = true
  | 0, v, hv, hk => by
    have := (h.zero v hv).1 (by omega)
    simpa [Proofs.Ytkekibnhmfmhmaa.wk] using this
  | k + 1, v, hv, hk => by
    obtain ⟨u, hu, h1, h2⟩ := h.pred v hv (by omega)
    exact wk_succ.2 ⟨u, hu, h.wk k u hu (by omega), h2⟩
theorem LevOk.uniq {nx : Nat → List Int} {n s : Nat} {f g : Nat → Int} (hf : LevOk nx n s f) (hg : LevOk nx n s g) (hs : s < n) : ∀ v, v < n → f v = g v := by
  have key : ∀ {f g : Nat → Int}, LevOk nx n s f → LevOk nx n s g → ∀ v, v < n → 0 ≤ f v → 0 ≤ g v ∧ g v ≤ f v := by
    intro f g hf hg v hv h0
    obtain ⟨k, hk⟩ : ∃ k : Nat, f v = k := ⟨(f v).toNat, by omega⟩
    have := hg.of_wk hs k v hv (hf.wk k v hv hk)
    omega
  intro v hv
  have h1 := hf.ge v hv
  have h2 := hg.ge v hv
  by_cases h : 0 ≤ f v
  · have := key hf hg v hv h
    have := key hg hf v hv this.1
    omega
  · by_cases h' : 0 ≤ g v
    · have := key hg hf v hv h'; omega
    · omega
/-- within k ways -/
def wkT (nx : Nat → List Int) (n s k v : Nat) : Bool := (List.range (k + 1)).any fun j => wk nx n s j v
theorem wkT_iff {nx : Nat → List Int} {n s k v : Nat} : wkT nx n s k v = true ↔ ∃ j, j ≤ k ∧ wk nx n s j v = true := by
  simp only [wkT, List.any_eq_true, List.mem_range]
  constructor
  · rintro ⟨j, h1, h2⟩; exact ⟨j, by omega, h2⟩
  · rintro ⟨j, h1, h2⟩; exact ⟨j, by omega, h2⟩
theorem countP_less {α : Type} (p q : α → Bool) : ∀ l : List α, (∀ x ∈ l, p x = true → q x = true) → (∃ x, x ∈ l ∧ q x = true ∧ p x = false) → l.countP p < l.countP q
  | [], _, h => by obtain ⟨x, hx, _⟩ := h; cases hx
  | a :: l, h1, h2 => by
    have hle : l.countP p ≤ l.countP q := List.countP_mono_left fun x hx => h1 x (List.mem_cons_of_mem _ hx)
    obtain ⟨x, hx, hq, hp⟩ := h2
    rw [List.countP_cons, List.countP_cons]
    rcases List.mem_cons.1 hx with rfl | hx
    · simp only [hq, hp]; simp; omega
    · have := countP_less p q l (fun x hx => h1 x (List.mem_cons_of_mem _ hx)) ⟨x, hx, hq, hp⟩
      have h3 := h1 a (List.mem_cons_self ..)
      cases ha : p a with
      | false => simp only [Bool.false_eq_true, if_false]; split <;> omega
      | true => rw [h3 ha]; simp; omega
theorem wkT_stop {nx : Nat → List Int} {n s : Nat} : ∀ m k, (List.range n).countP (fun v => !wkT nx n s k v) ≤ m → ∃ j, j ≤ k + m ∧ ∀ v, v < n → wkT nx n s (j + 1) v = true → wkT nx n s j v = true
  | m, k, h => by
    by_cases hs : ∀ v, v < n → wkT nx n s (k + 1) v = true → wkT nx n s k v = true
    · exact ⟨k, by omega, hs⟩
    · have : ∃ v, v < n ∧ wkT nx n s (k + 1) v = true ∧ wkT nx n s k v = false := by
        apply Classical.byContradiction
        intro hc
        apply hs
        intro v hv h1
        cases h2 : wkT nx n s k v with
        | true => rfl
        | false => exact absurd ⟨v, hv, h1, h2⟩ hc
      obtain ⟨v, hv, h1, h2⟩ := this
      have hlt := countP_less (fun v => !wkT nx n s (k + 1) v) (fun v => !wkT nx n s k v) (List.range n) (fun x _ hx => by
        simp only [Bool.not_eq_eq_eq_not, Bool.not_true] at hx ⊢
        cases h3 : wkT nx n s k x with
        | false => rfl
        | true =>
          obtain ⟨j, hj, h4⟩ := wkT_iff.1 h3
          rw [wkT_iff.2 ⟨j, by omega, h4⟩] at hx; cases hx) ⟨v, List.mem_range.2 hv, by simp [h2], by simp [h1]⟩
      cases m with
      | zero => omega
      | succ m =>
        obtain ⟨j, hj, h3⟩ := wkT_stop (nx := nx) (n := n) (s := s) m (k + 1) (by omega)
        exact ⟨j, by omega, h3⟩
theorem wkT_closed {nx : Nat → List Int} {n s j : Nat} (h : ∀ v, v < n → wkT nx n s (j + 1) v = true → wkT nx n s j v = true) : ∀ k v, v < n → wk nx n s k v = true → wkT nx n s j v = true
  | 0, v, _, hk => wkT_iff.2 ⟨0, Nat.zero_le _, hk⟩
  | k + 1, v, hv, hk => by
    obtain ⟨u, hu, h1, h2⟩ := wk_succ.1 hk
    obtain ⟨i, hi, h3⟩ := wkT_iff.1 (wkT_closed h k u hu h1)
    exact h v hv (wkT_iff.2 ⟨i + 1, by omega, wk_succ.2 ⟨u, hu, h3, h2⟩⟩)
/-- each walk can be had in less than n ways -/
theorem wk_short {nx : Nat → List Int} {n s : Nat} (hs : s < n) {k v : Nat} (hv : v < n) (hk : wk nx n s k v = true) : ∃ j, j < n ∧ wk nx n s j v = true := by
  have h0 : (List.range n).countP (fun v => !wkT nx n s 0 v) ≤ n - 1 := by
    have := countP_less (fun v => !wkT nx n s 0 v) (fun _ => true) (List.range n) (fun _ _ _ => rfl) ⟨s, List.mem_range.2 hs, rfl, by simp [wkT, wk, List.range_succ]⟩
    rw [List.countP_true, List.length_range] at this
    omega
  obtain ⟨j, hj, h1⟩ := wkT_stop (nx := nx) (s := s) (n - 1) 0 h0
  obtain ⟨i, hi, h2⟩ := wkT_iff.1 (wkT_closed h1 k v hv hk)
  exact ⟨i, by omega, h2⟩
/-- the least one -/
theorem least_nat {p : Nat → Bool} : ∀ k, p k = true → ∃ j, j ≤ k ∧ p j = true ∧ ∀ i, i < j → p i = false
  | 0, h => ⟨0, Nat.le_refl _, h, fun i hi => by omega⟩
  | k + 1, h => by
    by_cases h1 : ∃ j, j ≤ k ∧ p j = true
    · obtain ⟨j, hj, h2⟩ := h1
      obtain ⟨i, hi, h3, h4⟩ := least_nat j h2
      exact ⟨i, by omega, h3, h4⟩
    · refine ⟨k + 1, Nat.le_refl _, h, fun i hi => ?_⟩
      cases h2 : p i with
      | false => rfl
      | true => exact absurd ⟨i, by omega, h2⟩ h1
theorem find_range {p : Nat → Bool} {n k : Nat} (hk : k < n) (h1 : p k = true) (h2 : ∀ i, i < k → p i = false) : (List.range n).find? p = some k := by
  rw [List.find?_eq_some_iff_append]
  refine ⟨h1, List.range k, (List.range (n - k - 1)).map (· + (k + 1)), ?_, fun i hi => by rw [h2 i (List.mem_range.1 hi)]; rfl⟩
  have : n = k + 1 + (n - k - 1) := by omega
  conv => lhs; rw [this, List.range_add, List.range_succ]
  rw [List.append_assoc, List.singleton_append]
  have he : (fun x : Nat => k + 1 + x) = fun x => x + (k + 1) := by funext x; omega
  rw [he]
theorem lev_pos {nx : Nat → List Int} {n s v : Nat} (hs : s < n) (hv : v < n) {k : Nat} (hk : wk nx n s k v = true) : ∃ j, j ≤ k ∧ j < n ∧ lev nx n s v = j ∧ wk nx n s j v = true ∧ ∀ i, i < j → wk nx n s i v = false := by
  obtain ⟨i, hi, h1⟩ := wk_short hs hv hk
  obtain ⟨j, hj, h2, h3⟩ := least_nat (p := fun k => wk nx n s k v) i h1
  have hjk : j ≤ k := by
    by_cases h : j ≤ k
    · exact h
    · have := h3 k (by omega); rw [hk] at this; cases this
  refine ⟨j, hjk, by omega, ?_, h2, h3⟩
  unfold lev
  rw [find_range (p := fun k => wk nx n s k v) (by omega : j < n) h2 h3]
theorem lev_cases {nx : Nat → List Int} {n s v : Nat} (hs : s < n) (hv : v < n) : (lev nx n s v = -1 ∧ ∀ k, wk nx n s k v = false) ∨ ∃ j : Nat, j < n ∧ lev nx n s v = j ∧ wk nx n s j v = true ∧ ∀ i, i < j → wk nx n s i v = false := by
  by_cases h : ∃ k, wk nx n s k v = true
  · obtain ⟨k, hk⟩ := h
    obtain ⟨j, _, h1, h2, h3, h4⟩ := lev_pos hs hv hk
    exact Or.inr ⟨j, h1, h2, h3, h4⟩
  · have h' : ∀ k, wk nx n s k v = false := fun k => by
      cases h2 : wk nx n s k v with
      | false => rfl
      | true => exact absurd ⟨k, h2⟩ h
    refine .inl ⟨?_, h'⟩
    unfold lev
    rw [List.find?_eq_none.2 (fun x _ => by simp [h' x])]
theorem lev_ok (nx : Nat → List Int) (n s : Nat) (hs : s < n) : LevOk nx n s (lev nx n s) := by
  refine ⟨fun v hv => ?_, fun v hv => ?_, fun u v hu hv hm h0 => ?_, fun v hv h0 => ?_⟩
  · rcases lev_cases (nx := nx) hs hv with ⟨h, _⟩ | ⟨j, _, h, _⟩ <;> omega
  · constructor
    · intro h
      rcases lev_cases (nx := nx) hs hv with ⟨h1, _⟩ | ⟨j, _, h1, h2, _⟩
      · omega
      · have : j = 0 := by omega
        subst this
        simpa [wk] using h2
    · rintro rfl
      obtain ⟨j, hj, _, h1, _⟩ := lev_pos (nx := nx) (k := 0) hs hv (by simp [wk])
      omega
  · rcases lev_cases (nx := nx) hs hu with ⟨h1, _⟩ | ⟨j, _, h1, h2, _⟩
    · omega
    · obtain ⟨i, hi, _, h3, _⟩ := lev_pos hs hv (wk_succ.2 ⟨u, hu, h2, hm⟩)
      omega
  · rcases lev_cases (nx := nx) hs hv with ⟨h1, _⟩ | ⟨j, _, h1, h2, h3⟩
    · omega
    · obtain ⟨k, rfl⟩ : ∃ k, j = k + 1 := ⟨j - 1, by omega⟩
      obtain ⟨u, hu, h4, h5⟩ := wk_succ.1 h2
      refine ⟨u, hu, ?_, h5⟩
      obtain ⟨i, hi, _, h6, h7, _⟩ := lev_pos hs hu h4
      have : i = k := by
        by_cases h : i = k
        · exact h
        · have := h3 (i + 1) (by omega)
          rw [wk_succ.2 ⟨u, hu, h7, h5⟩] at this; cases this
      omega
theorem lev_lt {nx : Nat → List Int} {n s v : Nat} (hs : s < n) (hv : v < n) : lev nx n s v < n := by
  rcases lev_cases (nx := nx) hs hv with ⟨h, _⟩ | ⟨j, hj, h, _⟩ <;> omega
end Go.Proofs.Ytkekibnhmfmhmaa
/- Levels that are lowered edge by edge come to what levels are. -/
namespace Go.Proofs.Ytkekibnhmfmhmaa
open Go Go.RowKit
/-- one edge -/
def bf1 (X : List Int) (x : Int × Int) : List Int :=
  if 0 ≤ nth X x.1.toNat ∧ (nth X x.2.toNat < 0 ∨ nth X x.1.toNat + 1 < nth X x.2.toNat) then X.set x.2.toNat (nth X x.1.toNat + 1) else X
def bfR (l : List (Int × Int)) (X : List Int) : List Int := l.foldl bf1 X
def bfN (l : List (Int × Int)) (X : List Int) : Nat → List Int
  | 0 => X
  | t + 1 => bfR l (bfN l X t)
theorem bf1_len (X : List Int) (x : Int × Int) : (bf1 X x).length = X.length := by unfold bf1; split <;> simp
theorem bfR_len (l : List (Int × Int)) : ∀ X, (bfR l X).length = X.length := by
  induction l with
  | nil => intro X; rfl
  | cons a l ih => intro X; unfold bfR at *; rw [List.foldl_cons, ih, bf1_len]
theorem bfN_len (l : List (Int × Int)) (X : List Int) : ∀ t, (bfN l X t).length = X.length
  | 0 => rfl
  | t + 1 => by rw [bfN, bfR_len, bfN_len l X t]
theorem bfR_take {l : List (Int × Int)} {X : List Int} {i : Nat} (h : i < l.length) : bfR (l.take (i + 1)) X = bf1 (bfR (l.take i) X) (nth l i) := by
  unfold bfR; rw [take_succ_nth l i h, List.foldl_append]; rfl
theorem nth_set (X : List Int) (i j : Nat) (a : Int) (hi : i < X.length) : nth (X.set i a) j = if j = i then a else nth X j := by
  unfold nth
  rw [List.getD_eq_getElem?_getD, List.getD_eq_getElem?_getD, List.getElem?_set]
  by_cases h : i = j
  · subst h; simp [hi]
  · rw [if_neg h, if_neg (fun e => h e.symm)]
section
variable {nx : Nat → List Int} {n s : Nat} (hs : s < n) {l : List (Int × Int)}
  (hr : ∀ x ∈ l, 0 ≤ x.1 ∧ x.1 < n ∧ 0 ≤ x.2 ∧ x.2 < n) (hl : ∀ u v : Nat, u < n → v < n → (((u : Int), (v : Int)) ∈ l ↔ (v : Int) ∈ nx u))
/-- no number is less than a level -/
def Low (nx : Nat → List Int) (n s : Nat) (X : List Int) : Prop := X.length = n ∧ ∀ v, v < n → nth X v = -1 ∨ (0 ≤ lev nx n s v ∧ lev nx n s v ≤ nth X v)
include hs hr hl in
theorem bf1_low {X : List Int} (h : Low nx n s X) {x : Int × Int} (hx : x ∈ l) : Low nx n s (bf1 X x) ∧ (∀ v, v < n → 0 ≤ lev nx n s v → nth X v = lev nx n s v → nth (bf1 X x) v = lev nx n s v) ∧
    (0 ≤ lev nx n s x.1.toNat → nth X x.1.toNat = lev nx n s x.1.toNat → lev nx n s x.2.toNat = lev nx n s x.1.toNat + 1 → nth (bf1 X x) x.2.toNat = lev nx n s x.2.toNat) := by
  obtain ⟨h1, h2, h3, h4⟩ := hr x hx
  have hm : ((x.2.toNat : Nat) : Int) ∈ nx x.1.toNat := by
    rw [← hl x.1.toNat x.2.toNat (by omega) (by omega)]
    rw [Int.toNat_of_nonneg h1, Int.toNat_of_nonneg h3]; exact hx
  have hn := (lev_ok nx n s hs).next x.1.toNat x.2.toNat (by omega) (by omega) hm
  have hlo := h.2 x.1.toNat (by omega)
  have hlo2 := h.2 x.2.toNat (by omega)
  generalize hu : x.1.toNat = u at *
  generalize hw : x.2.toNat = w at *
  have hwn : w < X.length := by have := h.1; omega
  unfold bf1
  rw [hu, hw]
  by_cases hc : 0 ≤ nth X u ∧ (nth X w < 0 ∨ nth X u + 1 < nth X w)
  · rw [if_pos hc]
    have hle : 0 ≤ lev nx n s w ∧ lev nx n s w ≤ nth X u + 1 := by omega
    refine ⟨⟨by rw [List.length_set]; exact h.1, fun v hv => ?_⟩, fun v hv h0 he => ?_, fun h0 he he2 => ?_⟩
    · rw [nth_set _ _ _ _ hwn]
      split
      · rename_i e; subst e; exact .inr hle
      · exact h.2 v hv
    · rw [nth_set _ _ _ _ hwn]
      split
      · rename_i e; subst e; omega
      · exact he
    · rw [nth_set _ _ _ _ hwn, if_pos rfl]; omega
  · rw [if_neg hc]
    refine ⟨h, fun v hv h0 he => he, fun h0 he he2 => ?_⟩
    omega
include hs hr hl in
theorem bfR_low : ∀ (k : List (Int × Int)) (X : List Int), (∀ x ∈ k, x ∈ l) → Low nx n s X → Low nx n s (bfR k X) ∧ (∀ v, v < n → 0 ≤ lev nx n s v → nth X v = lev nx n s v → nth (bfR k X) v = lev nx n s v) ∧
    (∀ x ∈ k, 0 ≤ lev nx n s x.1.toNat → nth X x.1.toNat = lev nx n s x.1.toNat → lev nx n s x.2.toNat = lev nx n s x.1.toNat + 1 → nth (bfR k X) x.2.toNat = lev nx n s x.2.toNat)
  | [], X, _, h => ⟨h, fun _ _ _ e => e, fun _ hx => nomatch hx⟩
  | a :: k, X, hk, h => by
    obtain ⟨h1, h2, h3⟩ := bf1_low hs hr hl h (hk a (List.mem_cons_self ..))
    obtain ⟨g1, g2, g3⟩ := bfR_low k (bf1 X a) (fun x hx => hk x (List.mem_cons_of_mem _ hx)) h1
    refine ⟨g1, fun v hv h0 he => g2 v hv h0 (h2 v hv h0 he), fun x hx h0 he he2 => ?_⟩
    obtain ⟨r1, r2, r3, r4⟩ := hr x (hk x hx)
    rcases List.mem_cons.1 hx with rfl | hx
    · exact g2 _ (by omega) (by omega) (h3 h0 he he2)
    · exact g3 x hx h0 (h2 _ (by omega) h0 he) he2
include hs hr hl in
theorem bfN_upto {X : List Int} (h : Low nx n s X) (h0 : nth X s = 0) : ∀ t, Low nx n s (bfN l X t) ∧ ∀ v, v < n → 0 ≤ lev nx n s v → lev nx n s v ≤ t → nth (bfN l X t) v = lev nx n s v
  | 0 => ⟨h, fun v hv h1 h2 => by
    have h3 : lev nx n s v = 0 := by omega
    have := ((lev_ok nx n s hs).zero v hv).1 h3
    subst this
    rw [h3]; exact h0⟩
  | t + 1 => by
    obtain ⟨h1, h2⟩ := bfN_upto h h0 t
    obtain ⟨g1, g2, g3⟩ := bfR_low hs hr hl l (bfN l X t) (fun _ hx => hx) h1
    refine ⟨g1, fun v hv h3 h4 => ?_⟩
    by_cases h5 : lev nx n s v ≤ t
    · exact g2 v hv h3 (h2 v hv h3 h5)
    · obtain ⟨u, hu, h6, h7⟩ := (lev_ok nx n s hs).pred v hv (by omega)
      have h8 := g3 ((u : Int), (v : Int)) ((hl u v hu hv).2 h7)
      simp only [Int.toNat_natCast] at h8
      exact h8 (by omega) (h2 u hu (by omega) (by omega)) (by omega)
include hs hr hl in
theorem bfN_lev {X : List Int} (h : Low nx n s X) (h0 : nth X s = 0) : bfN l X n = (List.range n).map fun v => lev nx n s v := by
  obtain ⟨h1, h2⟩ := bfN_upto hs hr hl h h0 n
  apply List.ext_getElem
  · rw [h1.1]; simp
  · intro v hv1 hv2
    have hv : v < n := by simpa using hv2
    rw [← nth_eq hv1]
    simp only [List.getElem_map, List.getElem_range]
    rcases lev_cases (nx := nx) hs hv with ⟨h3, h4⟩ | ⟨j, hj, h3, _⟩
    · rcases h1.2 v hv with h5 | h5
      · rw [h5, h3]
      · omega
    · exact h2 v hv (by omega) (by omega)
end
/-- the row that is begun with -/
def bf0 (n s : Nat) : List Int := (List.replicate n (-1)).set s 0
theorem bf0_nth {n s : Nat} (hs : s < n) (v : Nat) (hv : v < n) : nth (bf0 n s) v = if v = s then 0 else -1 := by
  unfold bf0
  rw [nth_set _ _ _ _ (by simpa using hs)]
  split
  · rfl
  · rw [nth_eq (by simpa using hv)]; simp
theorem bf0_low {nx : Nat → List Int} {n s : Nat} (hs : s < n) : Low nx n s (bf0 n s) := by
  refine ⟨by simp [bf0], fun v hv => ?_⟩
  rw [bf0_nth hs v hv]
  split
  · rename_i e; subst e
    have := ((lev_ok nx n v hs).zero v hv).2 rfl
    omega
  · exact .inl rfl
/-- each number is small -/
theorem bf1_small {X : List Int} {x : Int × Int} {B : Int} (_ : -1 ≤ B) (h : ∀ v, -1 ≤ nth X v ∧ nth X v ≤ B) : ∀ v, -1 ≤ nth (bf1 X x) v ∧ nth (bf1 X x) v ≤ B + 1 := by
  intro v
  unfold bf1
  have h1 := h v
  have h2 := h x.1.toNat
  split
  · by_cases hw : x.2.toNat < X.length
    · rw [nth_set _ _ _ _ hw]
      split <;> omega
    · rw [List.set_eq_of_length_le (by omega)]; omega
  · omega
theorem rep_set {n v : Nat} (hv : v < n) : (List.replicate v (-1 : Int) ++ List.replicate (n - v) 0).set v (-1) = List.replicate (v + 1) (-1) ++ List.replicate (n - (v + 1)) 0 := by
  obtain ⟨m, rfl⟩ : ∃ m, n = v + 1 + m := ⟨n - v - 1, by omega⟩
  rw [show v + 1 + m - v = m + 1 by omega, show v + 1 + m - (v + 1) = m by omega, List.replicate_succ (n := m), List.replicate_succ' (n := v)]
  rw [List.set_append_right _ _ (by simp)]
  simp
theorem bfR_bd {l : List (Int × Int)} {B : Int} : ∀ i X, 0 ≤ B → (∀ v, -1 ≤ nth X v ∧ nth X v ≤ B) → ∀ v, -1 ≤ nth (bfR (l.take i) X) v ∧ nth (bfR (l.take i) X) v ≤ B + i
  | 0, X, _, h => fun v => by have := h v; simp [bfR]; omega
  | i + 1, X, hB, h => fun v => by
    by_cases hi : i < l.length
    · rw [bfR_take hi]
      have := bf1_small (x := nth l i) (B := B + i) (by omega) (bfR_bd (l := l) i X hB h) v
      omega
    · have := bfR_bd (l := l) i X hB h v
      rw [List.take_of_length_le (by omega : l.length ≤ i + 1)]
      rw [List.take_of_length_le (by omega : l.length ≤ i)] at this
      omega
theorem bf0_bd (n s : Nat) (v : Nat) : -1 ≤ nth (bf0 n s) v ∧ nth (bf0 n s) v ≤ 0 := by
  unfold bf0
  by_cases h : s < n
  · rw [nth_set _ _ _ _ (by simpa using h)]
    split
    · omega
    · by_cases hv : v < n
      · rw [nth_eq (by simpa using hv)]; simp
      · unfold nth; simp [hv]
  · rw [List.set_eq_of_length_le (by simp; omega)]
    by_cases hv : v < n
    · rw [nth_eq (by simpa using hv)]; simp
    · unfold nth; simp [hv]
theorem bfN_bd {l : List (Int × Int)} {n s : Nat} : ∀ t v, -1 ≤ nth (bfN l (bf0 n s) t) v ∧ nth (bfN l (bf0 n s) t) v ≤ (t * l.length : Nat)
  | 0, v => by have := bf0_bd n s v; simp [bfN]; omega
  | t + 1, v => by
    have := bfR_bd (l := l) l.length (bfN l (bf0 n s) t) (by omega) (bfN_bd t) v
    rw [List.take_length] at this
    rw [bfN, Nat.add_mul, Nat.one_mul]
    omega
end Go.Proofs.Ytkekibnhmfmhmaa
/- Two searches, from both ends: how far, when they meet, the path, in plain words. -/
namespace Go.Proofs.Ytkekibnhmfmhmaa
open Go Go.RowKit
theorem wk_zero {nx : Nat → List Int} {n s v : Nat} : wk nx n s 0 v = true ↔ v = s := by simp [wk]
theorem wk_bound {nx : Nat → List Int} {n s : Nat} (_ : s < n) : ∀ {k v : Nat}, v < n → wk nx n s k v = true → v < n := fun hv _ => hv
/-- a walk's first way -/
theorem wk_front {nx : Nat → List Int} {n s : Nat} (hs : s < n) : ∀ {k v : Nat}, v < n → (wk nx n s (k + 1) v = true ↔ ∃ u, u < n ∧ (u : Int) ∈ nx s ∧ wk nx n u k v = true)
  | 0, v, hv => by
    rw [wk_succ]
    constructor
    · rintro ⟨u, hu, h1, h2⟩
      have := wk_zero.1 h1; subst this
      exact ⟨v, hv, h2, wk_zero.2 rfl⟩
    · rintro ⟨u, hu, h1, h2⟩
      have := wk_zero.1 h2; subst this
      exact ⟨s, hs, wk_zero.2 rfl, h1⟩
  | k + 1, v, hv => by
    rw [wk_succ]
    constructor
    · rintro ⟨u, hu, h1, h2⟩
      obtain ⟨x, hx, h3, h4⟩ := (wk_front hs hu).1 h1
      exact ⟨x, hx, h3, wk_succ.2 ⟨u, hu, h4, h2⟩⟩
    · rintro ⟨x, hx, h3, h4⟩
      obtain ⟨u, hu, h5, h6⟩ := wk_succ.1 h4
      exact ⟨u, hu, (wk_front hs hu).2 ⟨x, hx, h3, h5⟩, h6⟩
theorem wk_trans {nx : Nat → List Int} {n s v : Nat} {a : Nat} (h1 : wk nx n s a v = true) : ∀ b t, t < n → wk nx n v b t = true → wk nx n s (a + b) t = true
  | 0, t, _, h2 => by have := wk_zero.1 h2; subst this; exact h1
  | b + 1, t, _, h2 => by
    obtain ⟨u, hu, h3, h4⟩ := wk_succ.1 h2
    exact wk_succ.2 ⟨u, hu, wk_trans h1 b u hu h3, h4⟩
theorem wk_split {nx : Nat → List Int} {n s : Nat} {a : Nat} : ∀ b t, t < n → wk nx n s (a + b) t = true → ∃ v, v < n ∧ wk nx n s a v = true ∧ wk nx n v b t = true
  | 0, t, ht, h => ⟨t, ht, h, wk_zero.2 rfl⟩
  | b + 1, t, ht, h => by
    obtain ⟨u, hu, h1, h2⟩ := wk_succ.1 h
    obtain ⟨v, hv, h3, h4⟩ := wk_split b u hu h1
    exact ⟨v, hv, h3, wk_succ.2 ⟨u, hu, h4, h2⟩⟩
/-- each place's next ones are those of which it is a next one, turned -/
def Rev (nx nb : Nat → List Int) (n : Nat) : Prop := ∀ u v : Nat, u < n → v < n → ((v : Int) ∈ nx u ↔ (u : Int) ∈ nb v)
theorem wk_rev {nx nb : Nat → List Int} {n : Nat} (h : Rev nx nb n) : ∀ k s v, s < n → v < n → (wk nx n s k v = true ↔ wk nb n v k s = true)
  | 0, s, v, _, _ => by rw [wk_zero, wk_zero]; exact ⟨fun e => e.symm, fun e => e.symm⟩
  | k + 1, s, v, hs, hv => by
    rw [wk_succ, wk_front hv hs]
    constructor
    · rintro ⟨u, hu, h1, h2⟩
      exact ⟨u, hu, (h u v hu hv).1 h2, (wk_rev h k s u hs hu).1 h1⟩
    · rintro ⟨u, hu, h1, h2⟩
      exact ⟨u, hu, (wk_rev h k s u hs hu).2 h2, (h u v hu hv).2 h1⟩
/-- back from one place as from the other -/
theorem lev_rev {nx nb : Nat → List Int} {n s t : Nat} (h : Rev nx nb n) (hs : s < n) (ht : t < n) : lev nx n s t = lev nb n t s := by
  have e : ∀ k, wk nx n s k t = wk nb n t k s := fun k => by rw [Bool.eq_iff_iff]; exact wk_rev h k s t hs ht
  unfold lev
  rw [show (fun k => wk nx n s k t) = fun k => wk nb n t k s from funext e]
theorem lev_wk {nx : Nat → List Int} {n s v : Nat} (hs : s < n) (hv : v < n) (h : 0 ≤ lev nx n s v) : wk nx n s (lev nx n s v).toNat v = true := by
  rcases lev_cases (nx := nx) hs hv with ⟨h1, _⟩ | ⟨j, _, h1, h2, _⟩
  · omega
  · rw [h1]; exact h2
theorem lev_le {nx : Nat → List Int} {n s v k : Nat} (hs : s < n) (hv : v < n) (h : wk nx n s k v = true) : 0 ≤ lev nx n s v ∧ lev nx n s v ≤ k := by
  obtain ⟨j, h1, _, h2, _⟩ := lev_pos hs hv h; omega
section
variable {nx nb : Nat → List Int} {n s t : Nat} (h : Rev nx nb n) (hs : s < n) (ht : t < n)
include h hs ht in
/-- over a place that both have it is no shorter -/
theorem lev_over {v : Nat} (hv : v < n) (h1 : 0 ≤ lev nx n s v) (h2 : 0 ≤ lev nb n t v) : 0 ≤ lev nx n s t ∧ lev nx n s t ≤ lev nx n s v + lev nb n t v := by
  have g1 := lev_wk hs hv h1
  have g2 := (wk_rev h _ v t hv ht).2 (lev_wk ht hv h2)
  have g3 := lev_le hs ht (wk_trans g1 _ t ht g2)
  omega
include h hs ht in
/-- on a shortest walk there is a place of each level -/
theorem lev_mid {j : Nat} (h0 : 0 ≤ lev nx n s t) (hj : j ≤ lev nx n s t) : ∃ v, v < n ∧ lev nx n s v = j ∧ lev nb n t v = lev nx n s t - j := by
  have g := lev_wk hs ht h0
  rw [show (lev nx n s t).toNat = j + ((lev nx n s t).toNat - j) by omega] at g
  obtain ⟨v, hv, g1, g2⟩ := wk_split _ t ht g
  have g3 := lev_le hs hv g1
  have g4 := lev_le ht hv ((wk_rev h _ v t hv ht).1 g2)
  have g5 := lev_over h hs ht hv g3.1 g4.1
  exact ⟨v, hv, by omega, by omega⟩
end
/-- levels up to k -/
def cut (f : Nat → Int) (k : Int) (v : Nat) : Int := if 0 ≤ f v ∧ f v ≤ k then f v else -1
theorem cut_ge {f : Nat → Int} {k : Int} {v : Nat} : 0 ≤ cut f k v ↔ 0 ≤ f v ∧ f v ≤ k := by unfold cut; split <;> omega
theorem cut_eq {f : Nat → Int} {k : Int} {v : Nat} (h : 0 ≤ cut f k v) : cut f k v = f v := by unfold cut at *; split at h <;> simp_all
/-- a place that both have -/
def meetB (n : Nat) (f g : Nat → Int) (k : Int) : Bool := (List.range n).any fun v => decide (0 ≤ f v) && decide (f v ≤ k) && decide (0 ≤ g v) && decide (g v ≤ k)
theorem meetB_iff {n : Nat} {f g : Nat → Int} {k : Int} : meetB n f g k = true ↔ ∃ v, v < n ∧ 0 ≤ f v ∧ f v ≤ k ∧ 0 ≤ g v ∧ g v ≤ k := by
  simp [meetB, and_assoc]
/-- is a level there? -/
def hasL (n : Nat) (f : Nat → Int) (k : Int) : Bool := (List.range n).any fun v => f v == k
theorem hasL_iff {n : Nat} {f : Nat → Int} {k : Int} : hasL n f k = true ↔ ∃ v, v < n ∧ f v = k := by
  simp [hasL]
section
variable {nx nb : Nat → List Int} {n s t : Nat} (h : Rev nx nb n) (hs : s < n) (ht : t < n)
include h hs ht in
theorem meet_lev {k : Nat} : meetB n (lev nx n s) (lev nb n t) k = true ↔ 0 ≤ lev nx n s t ∧ lev nx n s t ≤ 2 * (k : Int) := by
  rw [meetB_iff]
  constructor
  · rintro ⟨v, hv, h1, h2, h3, h4⟩
    have := lev_over h hs ht hv h1 h3; omega
  · rintro ⟨h1, h2⟩
    by_cases h3 : lev nx n s t ≤ k
    · obtain ⟨v, hv, g1, g2⟩ := lev_mid h hs ht (j := (lev nx n s t).toNat) h1 (by omega)
      exact ⟨v, hv, by omega, by omega, by omega, by omega⟩
    · obtain ⟨v, hv, g1, g2⟩ := lev_mid h hs ht (j := k) h1 (by omega)
      exact ⟨v, hv, by omega, by omega, by omega, by omega⟩
include hs in
theorem has_below {k j : Nat} (hj : j ≤ k) (hk : hasL n (lev nx n s) k = true) : hasL n (lev nx n s) j = true := by
  obtain ⟨v, hv, h1⟩ := hasL_iff.1 hk
  have g := lev_wk (nx := nx) hs hv (by omega)
  rw [h1, Int.toNat_natCast, show k = j + (k - j) by omega] at g
  obtain ⟨u, hu, g1, g2⟩ := wk_split _ v hv g
  have g3 := lev_le hs hu g1
  have g4 := lev_wk (nx := nx) hs hu g3.1
  have g5 := lev_le hs hv (wk_trans g4 _ v hv g2)
  exact hasL_iff.2 ⟨u, hu, by omega⟩
include hs in
theorem has_lt {k : Nat} (hk : hasL n (lev nx n s) k = true) : k < n := by
  obtain ⟨v, hv, h1⟩ := hasL_iff.1 hk
  have := lev_lt (nx := nx) hs hv; omega
include hs in
theorem has_0 : hasL n (lev nx n s) 0 = true := hasL_iff.2 ⟨s, hs, ((lev_ok nx n s hs).zero s hs).2 rfl⟩
end
/-- how many steps both searches take, from k on -/
def stepsK (n : Nat) (f g : Nat → Int) : Nat → Nat → Nat
  | 0, k => k
  | m + 1, k => if meetB n f g k = true then k else if hasL n f (k + 1) = true ∧ hasL n g (k + 1) = true then stepsK n f g m (k + 1) else k
def stepsN (n : Nat) (f g : Nat → Int) : Nat := stepsK n f g (n + 1) 0
section
variable {nx nb : Nat → List Int} {n s t : Nat} (h : Rev nx nb n) (hs : s < n) (ht : t < n)
include h hs ht in
theorem steps_yes (h0 : 0 ≤ lev nx n s t) : ∀ m k, n < k + m → 2 * (k:Int) ≤ lev nx n s t + 1 → stepsK n (lev nx n s) (lev nb n t) m k = ((lev nx n s t + 1) / 2).toNat
  | 0, k, hm, hk => by have := lev_lt (nx := nx) hs ht; omega
  | m + 1, k, hm, hk => by
    unfold stepsK
    by_cases h1 : meetB n (lev nx n s) (lev nb n t) k = true
    · rw [if_pos h1]
      have := (meet_lev h hs ht).1 h1; omega
    · rw [if_neg h1]
      have h2 : 2 * (k:Int) < lev nx n s t := by
        have := mt (meet_lev h hs ht (k := k)).2 h1; omega
      have h3 : hasL n (lev nx n s) ((k:Int) + 1) = true := by
        obtain ⟨v, hv, g1, _⟩ := lev_mid h hs ht (j := k + 1) h0 (by omega)
        exact hasL_iff.2 ⟨v, hv, by omega⟩
      have h4 : hasL n (lev nb n t) ((k:Int) + 1) = true := by
        obtain ⟨v, hv, _, g1⟩ := lev_mid h hs ht (j := (lev nx n s t).toNat - (k + 1)) h0 (by omega)
        exact hasL_iff.2 ⟨v, hv, by omega⟩
      rw [if_pos ⟨h3, h4⟩]
      exact steps_yes h0 m (k + 1) (by omega) (by omega)
include h hs ht in
theorem steps_no (h0 : lev nx n s t < 0) : ∀ m k, n < k + m → (k = 0 ∨ (hasL n (lev nx n s) k = true ∧ hasL n (lev nb n t) k = true)) → stepsK n (lev nx n s) (lev nb n t) m k < n
  | 0, k, hm, hk => by
    rcases hk with hk | hk
    · omega
    · have := has_lt hs hk.1; omega
  | m + 1, k, hm, hk => by
    unfold stepsK
    have h1 : ¬ meetB n (lev nx n s) (lev nb n t) k = true := fun h1 => by
      have := (meet_lev h hs ht).1 h1; omega
    rw [if_neg h1]
    split
    · rename_i h2
      exact steps_no h0 m (k + 1) (by omega) (.inr (by exact_mod_cast h2))
    · rcases hk with hk | hk
      · omega
      · exact has_lt hs hk.1
end
/-- the path: from each place to the first one that is a step nearer -/
def stepL (nx : Nat → List Int) (g : Nat → Int) (u : Nat) : Nat := (((nx u).find? fun x => g x.toNat == g u - 1).getD 0).toNat
def pathL (nx : Nat → List Int) (g : Nat → Int) : Nat → Nat → List Nat
  | 0, u => [u]
  | k + 1, u => u :: pathL nx g k (stepL nx g u)
theorem pathL_len (nx : Nat → List Int) (g : Nat → Int) : ∀ k u, (pathL nx g k u).length = k + 1
  | 0, _ => rfl
  | k + 1, u => by rw [pathL, List.length_cons, pathL_len nx g k]
end Go.Proofs.Ytkekibnhmfmhmaa
/- The reference's All and Any; the program's, in the same words. -/
namespace Go.Proofs.Ytkekibnhmfmhmaa
open Go Go.RowKit Go.Maps
def allK (L : List Po) (ws : List ByteArray) (k : Nat) : List Int := putAll ltI ((findL L (nth ws 0)).filter fun x => (ws.take k).all fun u => (findL L u).contains x)
theorem allK_mem {L : List Po} {ws : List ByteArray} {k : Nat} {x : Int} : x ∈ allK L ws k ↔ (x ∈ findL L (nth ws 0) ∧ ∀ u ∈ ws.take k, x ∈ findL L u) := by
  unfold allK
  rw [putAll_mem stoI, List.mem_filter, List.all_eq_true]
  simp
theorem allK_one {L : List Po} {ws : List ByteArray} (h : 0 < ws.length) : allK L ws 1 = putAll ltI (findL L (nth ws 0)) := by
  refine rises_uniq stoI _ _ (putAll_rises stoI _) (putAll_rises stoI _) fun x => ?_
  rw [allK_mem, putAll_mem stoI, take_succ_nth ws 0 h]
  simp
theorem allK_step {L : List Po} {ws : List ByteArray} {k : Nat} (h : k < ws.length) : bothS (allK L ws k) (findL L (nth ws k)) = allK L ws (k + 1) := by
  refine rises_uniq stoI _ _ (putAll_rises stoI _) (putAll_rises stoI _) fun x => ?_
  rw [allK_mem]
  unfold bothS
  rw [putAll_mem stoI, List.mem_filter, allK_mem, inB_iff, take_succ_nth ws k h]
  constructor
  · rintro ⟨⟨h1, h2⟩, h3⟩
    refine ⟨h1, fun u hu => ?_⟩
    rcases List.mem_append.1 hu with hu | hu
    · exact h2 u hu
    · rw [List.mem_singleton] at hu; subst hu; exact h3
  · rintro ⟨h1, h2⟩
    exact ⟨⟨h1, fun u hu => h2 u (List.mem_append_left _ hu)⟩, h2 _ (by simp)⟩
theorem allK_len {L : List Po} (hok : PoOk L) (ws : List ByteArray) (k : Nat) : (allK L ws k).length ≤ 1000 := by
  unfold allK
  exact Nat.le_trans (putAll_len _ _) (Nat.le_trans (List.length_filter_le _ _) (findL_ok hok _).1)
theorem allK_end {L : List Po} {ws : List ByteArray} {k : Nat} (h : ws.length ≤ k) : allK L ws k = allS L ws := by
  unfold allK allS; rw [List.take_of_length_le h]
theorem flat_len {L : List Po} (hok : PoOk L) (ws : List ByteArray) : (ws.flatMap (findL L)).length ≤ 1000 * ws.length := by
  induction ws with
  | nil => simp
  | cons a ws ih => rw [List.flatMap_cons, List.length_append, List.length_cons]; have := (findL_ok hok a).1; omega
theorem flat_step {L : List Po} {ws : List ByteArray} {k : Nat} (h : k < ws.length) : (ws.take (k + 1)).flatMap (findL L) = (ws.take k).flatMap (findL L) ++ findL L (nth ws k) := by
  rw [take_succ_nth ws k h, List.flatMap_append]; simp
theorem AllG (p : Option Addr) (np cp : Nat) (hs : List Hd) (L : List Po) (pr : Option Addr) (nr cr : Nat) (ws : List ByteArray) (w : World) (hL : RdP w p np hs L) (hok : PoOk L) (hR : Rd w 1 pr nr (encS ws)) (hcr : nr ≤ cr) (h0 : 0 < nr) (hn : nr ≤ 100) :
    Calls Try.prog 40 #[.slice p np cp, .slice pr nr cr] w fun e w' => ∃ q c, e = .returned (.tuple #[.slice q (allS L ws).length c, .int .i64 0]) ∧ Sep w w' [.own 3 1 q (allS L ws).length c (encI (allS L ws))] := by
  have HF := Lib.hid (foundAll p np cp hs L pr nr cr ws w hL hok hR hcr h0 hn)
  clear hL hok hR
  go_enter Try.func40, Try.ntmps40
  go_wp2_with (go_at_call 47; go_must (refine HF.out.mono ?_; rintro e w2 ⟨q1, c1, rfl, T⟩; have S2 := Lib.hid T; clear T))
  go_ret2
  exact ⟨q1, c1, rfl, S2.out⟩
theorem AllGn (p : Option Addr) (np cp : Nat) (pr : Option Addr) (cr : Nat) (w : World) : Calls Try.prog 40 #[.slice p np cp, .slice pr 0 cr] w fun e w' => e = .returned (.tuple #[.slice none 0 0, .int .i64 1]) ∧ Ext w w' := by
  go_enter Try.func40, Try.ntmps40
  go_wp2_with (go_at_call 47; go_must (refine (foundAll0 p np cp pr cr _).mono ?_; rintro e w2 ⟨rfl, T⟩; have S2 := Lib.hid T; clear T))
  go_ret2
  exact ⟨rfl, S2.out⟩
end Go.Proofs.Ytkekibnhmfmhmaa
/- Postings in memory of their own; the same; too many; few words. -/
namespace Go.Proofs.Ytkekibnhmfmhmaa
open Go Go.RowKit Go.Maps
theorem own_small {w : World} {base : Nat} {e : TypeId} {size : Nat} {q : Option Addr} {n c : Nat} {xs : List Value} (h : w.ownsRow base e size (.slice q n c) n xs) : n ≤ 9223372036854775807 := by
  rcases h.2 with ⟨_, h2⟩ | ⟨g, cap, cur, h1, _, _, h3, h4, _⟩
  · omega
  · unfold maxLen at h4; omega
def encPo (L : List Po) (hs : List Hd) : List Value := (L.zip hs).flatMap fun x => [.string x.1.1, x.2.v]
theorem encPo_len : ∀ (L : List Po) (hs : List Hd), hs.length = L.length → (encPo L hs).length = L.length * 2
  | [], _, _ => by simp [encPo]
  | p :: L, [], h => by simp at h
  | p :: L, a :: hs, h => by
    have := encPo_len L hs (by simpa using h)
    unfold encPo at this ⊢
    rw [List.zip_cons_cons, List.flatMap_cons, List.length_append, this, List.length_cons]; simp; omega
theorem encPo_get : ∀ (L : List Po) (hs : List Hd) (k : Nat), hs.length = L.length → k < L.length → (encPo L hs).getD (k * 2) undef = .string (nth L k).1 ∧ (encPo L hs).getD (k * 2 + 1) undef = (nth hs k).v
  | [], _, k, _, h => by simp at h
  | p :: L, [], _, h, _ => by simp at h
  | p :: L, a :: hs, 0, _, _ => ⟨rfl, rfl⟩
  | p :: L, a :: hs, k + 1, h, hk => by
    have := encPo_get L hs k (by simpa using h) (by simpa using hk)
    have e1 : (k + 1) * 2 = k * 2 + 1 + 1 := by omega
    have e2 : nth (p :: L) (k + 1) = nth L k := rfl
    have e3 : nth (a :: hs) (k + 1) = nth hs k := rfl
    rw [e1, e2, e3]
    exact this
theorem encPo_snoc (L : List Po) (hs : List Hd) (p : Po) (a : Hd) (h : hs.length = L.length) : encPo (L ++ [p]) (hs ++ [a]) = encPo L hs ++ [.string p.1, a.v] := by
  unfold encPo
  rw [List.zip_append h.symm, List.flatMap_append]; rfl
def rowsP (L : List Po) (hs : List Hd) : List (Hd × List Value) := hs.zip (L.map fun p => encI p.2)
theorem rowsP_snoc (L : List Po) (hs : List Hd) (p : Po) (a : Hd) (h : hs.length = L.length) : rowsP (L ++ [p]) (hs ++ [a]) = rowsP L hs ++ [(a, encI p.2)] := by
  unfold rowsP
  rw [List.map_append, List.zip_append (by simpa using h)]; rfl
theorem rowsP_at {L : List Po} {hs : List Hd} {k : Nat} (h : hs.length = L.length) (hk : k < L.length) : (nth hs k, encI (nth L k).2) ∈ rowsP L hs := by
  unfold rowsP
  rw [List.mem_iff_getElem]
  refine ⟨k, by simp; omega, ?_⟩
  rw [List.getElem_zip, nth_eq (by omega), nth_eq hk, List.getElem_map]
theorem RdP.of_sep {w0 w : World} {Γ : List Pc} (S : Sep w0 w Γ) (j i : Nat) {q : Option Addr} {n c : Nat} {hs : List Hd} {L : List Po} (hj : Γ[j]? = some (.many 3 1 (rowsP L hs))) (hi : Γ[i]? = some (.own 79 2 q n c (encPo L hs))) (hl : hs.length = L.length) : RdP w q n hs L := by
  have ho := S.own i hi
  have hr := Rd.of_own ho (own_small ho)
  have hn : n = L.length := by have := ho.1; rw [encPo_len L hs hl] at this; omega
  refine ⟨hn, hr.ptr, hr.small, fun k hk => ?_, fun k hk => ?_, fun k hk => ?_⟩
  · rw [hr.cells (k * 2) (by omega), (encPo_get L hs k hl (by omega)).1]
  · rw [hr.cells (k * 2 + 1) (by omega), (encPo_get L hs k hl (by omega)).2]; rfl
  · have h1 := S.manyAt j hj _ (rowsP_at hl (show k < L.length by omega))
    exact Rd.of_own h1 (own_small h1)
theorem infP : (Try.prog.info? 79).map (fun i => (i.zero, i.size, i.bytes)) = some (some (.agg #[.string ByteArray.empty, .slice none 0 0]), 2, 40) := by kernel_rfl
theorem one_P (a : ByteArray) (p : Option Addr) (m d : Nat) : ∀ u ∈ [Value.string a, Value.slice p m d], u.oneCell' = true := by intro u hu; simp at hu; rcases hu with rfl | rfl <;> rfl
end Go.Proofs.Ytkekibnhmfmhmaa
/- The library's sort of texts, onto a row of the call's own. -/
namespace Go.Proofs.Ytkekibnhmfmhmaa
open Go Go.RowKit Go.Shelf Go.Lib Go.Sort
theorem bl_lt : ∀ a b : List UInt8, Op.bytesLess a b = decide (a < b)
  | [], [] => by simp [Op.bytesLess]
  | [], _ :: _ => by simp [Op.bytesLess]
  | _ :: _, [] => by simp [Op.bytesLess]
  | a :: x, b :: y => by
    have ih := bl_lt x y
    rw [Bool.eq_iff_iff]
    simp only [Op.bytesLess, Bool.or_eq_true, Bool.and_eq_true, decide_eq_true_eq, beq_iff_eq, List.cons_lt_cons_iff]
    rw [ih, decide_eq_true_eq]
def toBA (x : List UInt8) : ByteArray := ⟨x.toArray⟩
theorem toBA_toList (x : List UInt8) : (toBA x).toList = x := by rw [ByteArray.toList_eq]; simp [toBA]
theorem putRow_gen {α : Type} [Inhabited α] (enc : α → Value) (w : World) (g : Nat) (l : List α) : putRow enc w g 0 l.toArray = putRow id w g 0 (l.map enc).toArray := by
  unfold putRow
  congr 1
  funext c
  unfold putCells
  apply Array.ext_getElem?
  intro i
  simp only [Array.getElem?_mapIdx]
  cases c[i]? with
  | none => rfl
  | some v =>
    simp only [Option.map_some]
    by_cases h : i < l.length
    · simp [h]
    · simp [h]
def sortT (l : List ByteArray) : List ByteArray := ((l.map fun s => s.data.toList).mergeSort fun x y => decide (x ≤ y)).map toBA
theorem sortT_len (l : List ByteArray) : (sortT l).length = l.length := by simp [sortT]
theorem toBA_data (s : ByteArray) : toBA s.data.toList = s := by simp [toBA]
theorem sortT_perm (l : List ByteArray) : (sortT l).Perm l := by
  unfold sortT
  have h := (List.mergeSort_perm (l.map fun s : ByteArray => s.data.toList) fun x y => decide (x ≤ y)).map toBA
  rw [List.map_map] at h
  have e : (toBA ∘ fun s : ByteArray => s.data.toList) = id := by funext s; exact toBA_data s
  rw [e, List.map_id] at h
  exact h
theorem sortT_rises {l : List ByteArray} (h : l.Nodup) : Rises sLess (sortT l) := by
  have h2 : (sortT l).Nodup := (sortT_perm l).nodup_iff.2 h
  have h1 : (sortT l).Pairwise fun a b => sLess b a = false := by
    unfold sortT
    rw [List.pairwise_map]
    have := List.pairwise_mergeSort (le := fun x y : List UInt8 => decide (x ≤ y)) (fun a b c h k => by simp only [decide_eq_true_eq] at *; exact List.le_trans h k) (fun a b => by simp only [Bool.or_eq_true, decide_eq_true_eq]; exact List.le_total a b) (l.map fun s : ByteArray => s.data.toList)
    refine this.imp ?_
    intro a b hab
    simp only [decide_eq_true_eq] at hab
    show Op.bytesLess (toBA b).toList (toBA a).toList = false
    rw [toBA_toList, toBA_toList, bl_lt]
    simpa using hab
  refine (h1.and h2).imp ?_
  rintro a b ⟨h3, h4⟩
  cases h5 : sLess a b with
  | true => rfl
  | false => exact (h4 (sLess_tri a b h5 h3)).elim
theorem sortT_put {l s : List ByteArray} (h : l.Nodup) (hm : ∀ x, x ∈ l ↔ x ∈ s) : sortT l = putAll sLess s :=
  rises_uniq stoS _ _ (sortT_rises h) (putAll_rises stoS s) fun x => by rw [(sortT_perm l).mem_iff, hm, putAll_mem stoS]
end Go.Proofs.Ytkekibnhmfmhmaa
/- What postings of a graph's words are: gathered word by word, or by definition. No program in sight. -/
namespace Go.Proofs.Ytkekibnhmfmhmaa
open Go Go.RowKit
/-- a place has a word: all such, in their order -/
abbrev Occ := Int × ByteArray
def occR (v : Nat) (l : List ByteArray) : List Occ := l.map fun s => ((v : Int), s)
def occK (W : List (List ByteArray)) (k : Nat) : List Occ := (List.range k).flatMap fun v => occR v (nth W v)
theorem occK_step (W : List (List ByteArray)) (k : Nat) : occK W (k + 1) = occK W k ++ occR k (nth W k) := by
  unfold occK; rw [List.range_succ, List.flatMap_append]; simp
theorem occR_len (v : Nat) (l : List ByteArray) : (occR v l).length = l.length := by simp [occR]
theorem occR_take (v : Nat) (l : List ByteArray) (j : Nat) (h : j < l.length) : occR v (l.take (j + 1)) = occR v (l.take j) ++ [((v : Int), nth l j)] := by
  unfold occR; rw [take_succ_nth l j h, List.map_append]; rfl
theorem occK_len {W : List (List ByteArray)} (h : ∀ l ∈ W, l.length ≤ 8) : ∀ k, k ≤ W.length → (occK W k).length ≤ 8 * k
  | 0, _ => by simp [occK]
  | k + 1, hk => by
    rw [occK_step, List.length_append, occR_len]
    have := occK_len h k (by omega)
    have h2 := h (nth W k) (by rw [nth_eq (by omega)]; exact List.getElem_mem _)
    omega
theorem occK_mem {W : List (List ByteArray)} {s : ByteArray} : (∃ x ∈ occK W W.length, x.2 = s) ↔ s ∈ W.flatten := by
  unfold occK occR
  simp only [List.mem_flatMap, List.mem_range, List.mem_map, List.mem_flatten]
  constructor
  · rintro ⟨x, ⟨v, hv, t, ht, rfl⟩, rfl⟩
    exact ⟨nth W v, by rw [nth_eq hv]; exact List.getElem_mem _, ht⟩
  · rintro ⟨l, hl, hs⟩
    obtain ⟨v, hv, rfl⟩ := List.mem_iff_getElem.1 hl
    exact ⟨((v : Int), s), ⟨v, hv, s, by rw [nth_eq hv]; exact hs, rfl⟩, rfl⟩
/-- a word's places -/
def plc (O : List Occ) (s : ByteArray) : List Int := (O.filter fun x => decide (x.2 = s)).map (·.1)
theorem plc_snoc (O : List Occ) (v : Int) (t s : ByteArray) : plc (O ++ [(v, t)]) s = if t = s then plc O s ++ [v] else plc O s := by
  unfold plc
  rw [List.filter_append, List.filter_cons]
  by_cases h : t = s <;> simp [h]
theorem plc_len (O : List Occ) (s : ByteArray) : (plc O s).length ≤ O.length := by unfold plc; rw [List.length_map]; exact List.length_filter_le _ _
theorem plc_nil {O : List Occ} {s : ByteArray} : plc O s = [] ↔ ∀ x ∈ O, x.2 ≠ s := by
  unfold plc
  rw [List.map_eq_nil_iff, List.filter_eq_nil_iff]
  simp
theorem nodup_ne {α : Type} {l : List α} (h : l.Nodup) {i j : Nat} (hi : i < l.length) (hj : j < l.length) (hne : i ≠ j) : l[i] ≠ l[j] := by
  rcases Nat.lt_or_gt_of_ne hne with h1 | h1
  · exact List.pairwise_iff_getElem.1 h i j hi hj h1
  · exact (List.pairwise_iff_getElem.1 h j i hj hi h1).symm
/-- what is gathered of the occurrences -/
structure Gath (O : List Occ) (A : List Po) : Prop where
  nodup : (A.map (·.1)).Nodup
  keys : ∀ s, s ∈ A.map (·.1) ↔ ∃ x ∈ O, x.2 = s
  at_ : ∀ p ∈ A, p.2 = plc O p.1
theorem Gath.nil : Gath [] [] := ⟨List.nodup_nil, fun s => by simp, fun p hp => by cases hp⟩
theorem Gath.new {O : List Occ} {A : List Po} (h : Gath O A) {v : Int} {s : ByteArray} (hs : s ∉ A.map (·.1)) : Gath (O ++ [(v, s)]) (A ++ [(s, [v])]) := by
  have hno : ∀ x ∈ O, x.2 ≠ s := fun x hx e => hs ((h.keys s).2 ⟨x, hx, e⟩)
  refine ⟨?_, fun t => ?_, fun p hp => ?_⟩
  · rw [List.map_append, List.nodup_append]
    refine ⟨h.nodup, by simp, fun a ha b hb => ?_⟩
    simp at hb; subst hb; rintro rfl; exact hs ha
  · rw [List.map_append, List.mem_append, h.keys t]
    constructor
    · rintro (⟨x, hx, e⟩ | ht)
      · exact ⟨x, List.mem_append_left _ hx, e⟩
      · simp at ht; subst ht; exact ⟨(v, t), by simp, rfl⟩
    · rintro ⟨x, hx, e⟩
      rcases List.mem_append.1 hx with hx | hx
      · exact .inl ⟨x, hx, e⟩
      · rw [List.mem_singleton] at hx; subst hx; right; simp [e.symm]
  · rw [plc_snoc]
    rcases List.mem_append.1 hp with hp1 | hp1
    · have hne : s ≠ p.1 := fun e => hs (by rw [e]; exact List.mem_map_of_mem hp1)
      rw [if_neg hne]; exact h.at_ p hp1
    · rw [List.mem_singleton] at hp1; subst hp1
      rw [if_pos rfl, plc_nil.2 hno]; rfl
theorem Gath.more {O : List Occ} {A : List Po} (h : Gath O A) {v : Int} {r : Nat} (hr : r < A.length) : Gath (O ++ [(v, (nth A r).1)]) (A.set r ((nth A r).1, (nth A r).2 ++ [v])) := by
  have hmap : (A.set r ((nth A r).1, (nth A r).2 ++ [v])).map (·.1) = A.map (·.1) := by
    rw [List.map_set]
    have e : (nth A r).1 = (A.map (·.1))[r]'(by simpa using hr) := by rw [nth_eq hr, List.getElem_map]
    show (A.map (·.1)).set r (nth A r).1 = _
    rw [e, List.set_getElem_self]
  refine ⟨by rw [hmap]; exact h.nodup, fun t => ?_, fun p hp => ?_⟩
  · rw [hmap, h.keys t]
    constructor
    · rintro ⟨x, hx, e⟩; exact ⟨x, List.mem_append_left _ hx, e⟩
    · rintro ⟨x, hx, e⟩
      rcases List.mem_append.1 hx with hx | hx
      · exact ⟨x, hx, e⟩
      · rw [List.mem_singleton] at hx; subst hx
        have : t ∈ A.map (·.1) := by rw [← e, nth_eq hr]; exact List.mem_map_of_mem (List.getElem_mem _)
        exact (h.keys t).1 this
  · rw [plc_snoc]
    obtain ⟨i, hi, rfl⟩ := List.mem_iff_getElem.1 hp
    rw [List.length_set] at hi
    rw [List.getElem_set]
    by_cases e : r = i
    · rw [if_pos e, if_pos rfl]
      rw [← h.at_ (nth A r) (by rw [nth_eq hr]; exact List.getElem_mem _)]
    · rw [if_neg e]
      have hne : (nth A r).1 ≠ A[i].1 := by
        rw [nth_eq hr]
        intro he
        exact nodup_ne h.nodup (i := r) (j := i) (by simpa using hr) (by simpa using hi) e (by simpa using he)
      rw [if_neg hne]; exact h.at_ _ (List.getElem_mem _)
/-- the postings of a graph's words -/
def makeP (W : List (List ByteArray)) : List Po := (putAll sLess W.flatten).map fun s => (s, plc (occK W W.length) s)
theorem Gath.sorted {W : List (List ByteArray)} {A : List Po} (h : Gath (occK W W.length) A) : sortT (A.map (·.1)) = putAll sLess W.flatten :=
  sortT_put h.nodup fun s => by rw [h.keys s, occK_mem]
theorem Gath.find {O : List Occ} {A : List Po} (h : Gath O A) {s : ByteArray} (hs : s ∈ A.map (·.1)) : ∃ r, r < A.length ∧ (nth A r).1 = s ∧ (nth A r).2 = plc O s := by
  obtain ⟨p, hp, rfl⟩ := List.mem_map.1 hs
  obtain ⟨r, hr, rfl⟩ := List.mem_iff_getElem.1 hp
  refine ⟨r, hr, by rw [nth_eq hr], ?_⟩
  rw [nth_eq hr]; exact h.at_ _ hp
theorem nodup_len {α : Type} [DecidableEq α] : ∀ {l m : List α}, l.Nodup → (∀ x ∈ l, x ∈ m) → l.length ≤ m.length
  | [], _, _, _ => by simp
  | a :: l, m, h, hm => by
    obtain ⟨h1, h2⟩ := List.nodup_cons.1 h
    have ha := hm a (by simp)
    have ih := nodup_len (m := m.erase a) h2 fun x hx => (List.mem_erase_of_ne (fun e => h1 (by rw [← e]; exact hx))).2 (hm x (by simp [hx]))
    rw [List.length_erase_of_mem ha] at ih
    have := List.length_pos_of_mem ha
    rw [List.length_cons]; omega
theorem Gath.len {O : List Occ} {A : List Po} (h : Gath O A) : A.length ≤ O.length := by
  have h1 := nodup_len (m := O.map (·.2)) h.nodup fun s hs => by
    obtain ⟨x, hx, e⟩ := (h.keys s).1 hs
    exact e ▸ List.mem_map_of_mem hx
  simpa using h1
end Go.Proofs.Ytkekibnhmfmhmaa
/- The next level's places, gone through in their order, each once. -/
namespace Go.Proofs.Ytkekibnhmfmhmaa
open Go Go.RowKit
/-- one place that a way leads to -/
def ah1 (X : List Int) (l : List Int) (w : Int) : List Int := if nth X w.toNat < 0 ∧ w ∉ l then l ++ [w] else l
def ahR (X : List Int) (m : List Int) (l : List Int) : List Int := m.foldl (ah1 X) l
def ahF (nx : Nat → List Int) (X : List Int) (F : List Int) (l : List Int) : List Int := F.foldl (fun l v => ahR X (nx v.toNat) l) l
theorem ahR_take {X m l : List Int} {j : Nat} (h : j < m.length) : ahR X (m.take (j + 1)) l = ah1 X (ahR X (m.take j) l) (nth m j) := by
  unfold ahR; rw [take_succ_nth m j h, List.foldl_append]; rfl
theorem ahF_take {nx : Nat → List Int} {X F l : List Int} {j : Nat} (h : j < F.length) : ahF nx X (F.take (j + 1)) l = ahR X (nx (nth F j).toNat) (ahF nx X (F.take j) l) := by
  unfold ahF; rw [take_succ_nth F j h, List.foldl_append]; rfl
theorem ah1_mem {X l : List Int} {w x : Int} : x ∈ ah1 X l w ↔ x ∈ l ∨ (x = w ∧ nth X w.toNat < 0) := by
  unfold ah1
  split
  · rename_i h
    rw [List.mem_append, List.mem_singleton]
    constructor
    · rintro (h1 | h1)
      · exact .inl h1
      · exact .inr ⟨h1, h.1⟩
    · rintro (h1 | h1)
      · exact .inl h1
      · exact .inr h1.1
  · rename_i h
    constructor
    · exact .inl
    · rintro (h1 | ⟨h1, h2⟩)
      · exact h1
      · subst h1
        by_cases h3 : x ∈ l
        · exact h3
        · exact absurd ⟨h2, h3⟩ h
theorem ahR_mem {X : List Int} {x : Int} : ∀ {m l : List Int}, x ∈ ahR X m l ↔ x ∈ l ∨ (x ∈ m ∧ nth X x.toNat < 0)
  | [], l => by simp [ahR]
  | a :: m, l => by
    have := ahR_mem (X := X) (x := x) (m := m) (l := ah1 X l a)
    unfold ahR at *
    rw [List.foldl_cons, this, ah1_mem, List.mem_cons]
    constructor
    · rintro ((h | ⟨rfl, h⟩) | h)
      · exact .inl h
      · exact .inr ⟨.inl rfl, h⟩
      · exact .inr ⟨.inr h.1, h.2⟩
    · rintro (h | ⟨rfl | h, h2⟩)
      · exact .inl (.inl h)
      · exact .inl (.inr ⟨rfl, h2⟩)
      · exact .inr ⟨h, h2⟩
theorem ahF_mem {nx : Nat → List Int} {X : List Int} {x : Int} : ∀ {F l : List Int}, x ∈ ahF nx X F l ↔ x ∈ l ∨ (∃ v ∈ F, x ∈ nx v.toNat ∧ nth X x.toNat < 0)
  | [], l => by simp [ahF]
  | a :: F, l => by
    have := ahF_mem (nx := nx) (X := X) (x := x) (F := F) (l := ahR X (nx a.toNat) l)
    unfold ahF at *
    rw [List.foldl_cons, this, ahR_mem]
    constructor
    · rintro ((h | h) | ⟨v, h1, h2⟩)
      · exact .inl h
      · exact .inr ⟨a, List.mem_cons_self .., h⟩
      · exact .inr ⟨v, List.mem_cons_of_mem _ h1, h2⟩
    · rintro (h | ⟨v, h1, h2⟩)
      · exact .inl (.inl h)
      · rcases List.mem_cons.1 h1 with rfl | h1
        · exact .inl (.inr h2)
        · exact .inr ⟨v, h1, h2⟩
theorem ah1_nodup {X l : List Int} {w : Int} (h : l.Nodup) : (ah1 X l w).Nodup := by
  unfold ah1
  split
  · rename_i h1
    rw [List.nodup_append]
    exact ⟨h, by simp, fun a ha b hb e => by rw [List.mem_singleton] at hb; subst hb; subst e; exact h1.2 ha⟩
  · exact h
theorem ahR_nodup {X : List Int} : ∀ {m l : List Int}, l.Nodup → (ahR X m l).Nodup
  | [], _, h => h
  | a :: m, l, h => by
    have := ahR_nodup (X := X) (m := m) (ah1_nodup (X := X) (w := a) h)
    unfold ahR at *
    exact this
theorem ahF_nodup {nx : Nat → List Int} {X : List Int} : ∀ {F l : List Int}, l.Nodup → (ahF nx X F l).Nodup
  | [], _, h => h
  | a :: F, l, h => by
    have := ahF_nodup (nx := nx) (X := X) (F := F) (ahR_nodup (X := X) (m := nx a.toNat) h)
    unfold ahF at *
    exact this
/-- numbers of places, each once: no more than places -/
theorem nodup_small {l : List Int} {n : Nat} (h : l.Nodup) (hb : ∀ x ∈ l, 0 ≤ x ∧ x < n) : l.length ≤ n := by
  have := nodup_len (m := (List.range n).map fun v : Nat => (v : Int)) h fun x hx => by
    obtain ⟨h1, h2⟩ := hb x hx
    rw [List.mem_map]
    exact ⟨x.toNat, List.mem_range.2 (by omega), by omega⟩
  simpa using this
/-- one level's places -/
def IsFront (f : Nat → Int) (n : Nat) (k : Int) (F : List Int) : Prop := F.Nodup ∧ ∀ x, x ∈ F ↔ 0 ≤ x ∧ x < n ∧ f x.toNat = k
/-- rows lead to places -/
def InN (nx : Nat → List Int) (n : Nat) : Prop := ∀ u, u < n → ∀ x ∈ nx u, 0 ≤ x ∧ x < n
theorem front_next {nx : Nat → List Int} {n s : Nat} (hs : s < n) (hin : InN nx n) {k : Nat} {F X : List Int} (hF : IsFront (lev nx n s) n k F)
    (hX : ∀ v, v < n → (nth X v < 0 ↔ ¬ (0 ≤ lev nx n s v ∧ lev nx n s v ≤ k))) : IsFront (lev nx n s) n (k + 1 : Nat) (ahF nx X F []) := by
  refine ⟨ahF_nodup List.nodup_nil, fun x => ?_⟩
  rw [ahF_mem]
  have L := lev_ok nx n s hs
  constructor
  · rintro (h | ⟨v, h1, h2, h3⟩)
    · cases h
    · obtain ⟨g1, g2, g3⟩ := (hF.2 v).1 h1
      obtain ⟨g4, g5⟩ := hin v.toNat (by omega) x h2
      have g6 := (hX x.toNat (by omega)).1 h3
      have g7 := L.next v.toNat x.toNat (by omega) (by omega) (by rw [Int.toNat_of_nonneg g4]; exact h2) (by omega)
      exact ⟨g4, g5, by omega⟩
  · rintro ⟨h1, h2, h3⟩
    obtain ⟨u, hu, g1, g2⟩ := L.pred x.toNat (by omega) (by omega)
    rw [Int.toNat_of_nonneg h1] at g2
    refine .inr ⟨(u : Int), (hF.2 u).2 ⟨by omega, by omega, by rw [Int.toNat_natCast]; omega⟩, by rw [Int.toNat_natCast]; exact g2, (hX x.toNat (by omega)).2 (by omega)⟩
theorem front_0 {nx : Nat → List Int} {n s : Nat} (hs : s < n) : IsFront (lev nx n s) n 0 [(s : Int)] := by
  refine ⟨by simp, fun x => ?_⟩
  rw [List.mem_singleton]
  have L := lev_ok nx n s hs
  constructor
  · rintro rfl
    exact ⟨by omega, by omega, by rw [Int.toNat_natCast]; exact (L.zero s hs).2 rfl⟩
  · rintro ⟨h1, h2, h3⟩
    have := (L.zero x.toNat (by omega)).1 h3
    omega
/-- levels up to k, as a row -/
def cutL (f : Nat → Int) (n : Nat) (k : Int) : List Int := (List.range n).map fun v => cut f k v
theorem cutL_len (f : Nat → Int) (n : Nat) (k : Int) : (cutL f n k).length = n := by simp [cutL]
theorem cutL_nth {f : Nat → Int} {n : Nat} {k : Int} {v : Nat} (hv : v < n) : nth (cutL f n k) v = cut f k v := by
  rw [nth_eq (by rw [cutL_len]; exact hv)]; simp [cutL]
/-- the level's places set -/
def tkR (c : Int) (m : List Int) (X : List Int) : List Int := m.foldl (fun X w => X.set w.toNat c) X
theorem tkR_take {c : Int} {X m : List Int} {j : Nat} (h : j < m.length) : tkR c (m.take (j + 1)) X = (tkR c (m.take j) X).set (nth m j).toNat c := by
  unfold tkR; rw [take_succ_nth m j h, List.foldl_append]; rfl
theorem tkR_len {c : Int} : ∀ {m X : List Int}, (tkR c m X).length = X.length
  | [], X => rfl
  | a :: m, X => by
    have := tkR_len (c := c) (m := m) (X := X.set a.toNat c)
    unfold tkR at *
    rw [List.foldl_cons, this, List.length_set]
theorem tkR_nth {c : Int} {v : Nat} : ∀ {m X : List Int}, (∀ x ∈ m, 0 ≤ x ∧ x < X.length) → nth (tkR c m X) v = if (v : Int) ∈ m then c else nth X v
  | [], X, _ => by simp [tkR]
  | a :: m, X, h => by
    have h0 := h a (List.mem_cons_self ..)
    have := tkR_nth (c := c) (v := v) (m := m) (X := X.set a.toNat c) (fun x hx => by rw [List.length_set]; exact h x (List.mem_cons_of_mem _ hx))
    unfold tkR at *
    rw [List.foldl_cons, this, nth_set _ _ _ _ (by omega)]
    simp only [List.mem_cons]
    by_cases h1 : (v : Int) ∈ m
    · simp [h1]
    · by_cases h2 : v = a.toNat
      · rw [if_neg h1, if_pos h2, if_pos (.inl (by omega))]
      · rw [if_neg h1, if_neg h2, if_neg]
        rintro (h3 | h3)
        · omega
        · exact h1 h3
theorem take_cut {f : Nat → Int} {n : Nat} {k : Nat} {m : List Int} (hm : IsFront f n (k + 1 : Nat) m) : tkR ((k : Int) + 1) m (cutL f n k) = cutL f n (k + 1 : Nat) := by
  apply List.ext_getElem
  · rw [tkR_len, cutL_len, cutL_len]
  · intro v h1 h2
    have hv : v < n := by rw [cutL_len] at h2; exact h2
    rw [← nth_eq h1, ← nth_eq h2, cutL_nth hv, tkR_nth (fun x hx => by have := (hm.2 x).1 hx; rw [cutL_len]; omega), cutL_nth hv]
    have h3 := hm.2 (v : Int)
    rw [Int.toNat_natCast] at h3
    unfold cut
    by_cases h4 : (v : Int) ∈ m
    · have := h3.1 h4
      rw [if_pos h4, if_pos (by omega)]; omega
    · have : ¬ f v = ((k + 1 : Nat) : Int) := fun e => h4 (h3.2 ⟨by omega, by omega, e⟩)
      rw [if_neg h4]
      by_cases h5 : 0 ≤ f v ∧ f v ≤ k
      · rw [if_pos h5, if_pos (by omega)]
      · rw [if_neg h5, if_neg (by omega)]
theorem cut_0 {nx : Nat → List Int} {n s : Nat} (hs : s < n) : cutL (lev nx n s) n 0 = bf0 n s := by
  apply List.ext_getElem
  · rw [cutL_len]; simp [bf0]
  · intro v h1 h2
    have hv : v < n := by rw [cutL_len] at h1; exact h1
    rw [← nth_eq h1, ← nth_eq h2, cutL_nth hv, bf0_nth hs v hv]
    have L := (lev_ok nx n s hs).zero v hv
    unfold cut
    by_cases h : v = s
    · rw [if_pos h, if_pos (by have := L.2 h; omega)]; exact L.2 h
    · have : ¬ lev nx n s v = 0 := fun e => h (L.1 e)
      rw [if_neg h, if_neg (by omega)]
theorem cut_lt {f : Nat → Int} {k : Int} {v : Nat} : cut f k v < 0 ↔ ¬ (0 ≤ f v ∧ f v ≤ k) := by
  have := cut_ge (f := f) (k := k) (v := v); omega
end Go.Proofs.Ytkekibnhmfmhmaa
/- The shortest walk over places that both searches have; how both searches go on. -/
namespace Go.Proofs.Ytkekibnhmfmhmaa
open Go Go.RowKit
def best1 (X Y : List Int) (s : Int × Bool) (v : Nat) : Int × Bool := if 0 ≤ nth X v ∧ 0 ≤ nth Y v ∧ (s.2 = false ∨ nth X v + nth Y v < s.1) then (nth X v + nth Y v, true) else s
def bestR (X Y : List Int) (k : Nat) : Int × Bool := (List.range k).foldl (best1 X Y) (0, false)
theorem bestR_succ (X Y : List Int) (k : Nat) : bestR X Y (k + 1) = best1 X Y (bestR X Y k) k := by
  unfold bestR; rw [List.range_succ, List.foldl_append]; rfl
theorem bestR_is (X Y : List Int) : ∀ k, ((bestR X Y k).2 = false → (bestR X Y k).1 = 0 ∧ ∀ v, v < k → ¬ (0 ≤ nth X v ∧ 0 ≤ nth Y v)) ∧
    ((bestR X Y k).2 = true → (∃ v, v < k ∧ 0 ≤ nth X v ∧ 0 ≤ nth Y v ∧ (bestR X Y k).1 = nth X v + nth Y v) ∧ ∀ v, v < k → 0 ≤ nth X v → 0 ≤ nth Y v → (bestR X Y k).1 ≤ nth X v + nth Y v)
  | 0 => ⟨fun _ => ⟨rfl, fun v hv => by omega⟩, fun h => by cases h⟩
  | k + 1 => by
    obtain ⟨h1, h2⟩ := bestR_is X Y k
    rw [bestR_succ]
    generalize bestR X Y k = s at *
    obtain ⟨m, b⟩ := s
    unfold best1
    by_cases hc : 0 ≤ nth X k ∧ 0 ≤ nth Y k ∧ (b = false ∨ nth X k + nth Y k < m)
    · rw [if_pos hc]
      refine ⟨fun h => by (simp at h), fun _ => ⟨⟨k, by omega, hc.1, hc.2.1, rfl⟩, fun v hv g1 g2 => ?_⟩⟩
      by_cases hv' : v = k
      · subst hv'; exact Int.le_refl _
      · cases b with
        | false => exact absurd ⟨g1, g2⟩ ((h1 rfl).2 v (by omega))
        | true =>
          have := (h2 rfl).2 v (by omega) g1 g2
          rcases hc.2.2 with h | h
          · cases h
          · simp only at this ⊢; omega
    · rw [if_neg hc]
      cases b with
      | false =>
        refine ⟨fun _ => ⟨(h1 rfl).1, fun v hv g => ?_⟩, fun h => by cases h⟩
        by_cases hv' : v = k
        · subst hv'; exact hc ⟨g.1, g.2, .inl rfl⟩
        · exact (h1 rfl).2 v (by omega) g
      | true =>
        refine ⟨fun h => (by cases h), fun _ => ⟨?_, fun v hv g1 g2 => ?_⟩⟩
        · obtain ⟨v, hv, g⟩ := (h2 rfl).1
          exact ⟨v, by omega, g⟩
        · by_cases hv' : v = k
          · subst hv'
            apply Classical.byContradiction
            intro hlt
            exact hc ⟨g1, g2, .inr (by simp only at hlt ⊢; omega)⟩
          · exact (h2 rfl).2 v (by omega) g1 g2
section
variable {nx nb : Nat → List Int} {n s t : Nat} (h : Rev nx nb n) (hs : s < n) (ht : t < n)
include h hs ht in
/-- what both searches have when they have taken k steps -/
theorem best_lev {k : Nat} (_ : 0 ≤ lev nx n s t → 2 * (k:Int) ≤ lev nx n s t + 1) :
    (meetB n (lev nx n s) (lev nb n t) k = true → bestR (cutL (lev nx n s) n k) (cutL (lev nb n t) n k) n = (lev nx n s t, true)) ∧
    (meetB n (lev nx n s) (lev nb n t) k = false → bestR (cutL (lev nx n s) n k) (cutL (lev nb n t) n k) n = (0, false)) := by
  obtain ⟨h1, h2⟩ := bestR_is (cutL (lev nx n s) n k) (cutL (lev nb n t) n k) n
  generalize hb : bestR (cutL (lev nx n s) n k) (cutL (lev nb n t) n k) n = b at *
  obtain ⟨m, o⟩ := b
  constructor
  · intro hm
    obtain ⟨g1, g2⟩ := (meet_lev h hs ht).1 hm
    have hex : ∃ v, v < n ∧ lev nx n s v ≤ k ∧ 0 ≤ lev nx n s v ∧ lev nb n t v ≤ k ∧ 0 ≤ lev nb n t v ∧ lev nx n s v + lev nb n t v = lev nx n s t := by
      by_cases h3 : lev nx n s t ≤ k
      · obtain ⟨v, hv, e1, e2⟩ := lev_mid h hs ht (j := (lev nx n s t).toNat) g1 (by omega)
        exact ⟨v, hv, by omega, by omega, by omega, by omega, by omega⟩
      · obtain ⟨v, hv, e1, e2⟩ := lev_mid h hs ht (j := k) g1 (by omega)
        exact ⟨v, hv, by omega, by omega, by omega, by omega, by omega⟩
    obtain ⟨v, hv, e1, e2, e3, e4, e5⟩ := hex
    have c1 : nth (cutL (lev nx n s) n k) v = lev nx n s v := by rw [cutL_nth hv]; unfold cut; rw [if_pos ⟨e2, e1⟩]
    have c2 : nth (cutL (lev nb n t) n k) v = lev nb n t v := by rw [cutL_nth hv]; unfold cut; rw [if_pos ⟨e4, e3⟩]
    cases o with
    | false => exact absurd ⟨by rw [c1]; exact e2, by rw [c2]; exact e4⟩ ((h1 rfl).2 v hv)
    | true =>
      obtain ⟨⟨u, hu, f1, f2, f3⟩, f4⟩ := h2 rfl
      have f5 := f4 v hv (by rw [c1]; exact e2) (by rw [c2]; exact e4)
      rw [c1, c2] at f5
      rw [cutL_nth hu] at f1 f3
      rw [cutL_nth hu] at f2 f3
      have f6 := cut_eq f1
      have f7 := cut_eq f2
      have f8 := lev_over h hs ht hu (by rw [← f6]; exact f1) (by rw [← f7]; exact f2)
      simp only at f3 f5
      have : m = lev nx n s t := by omega
      rw [this]
  · intro hm
    cases o with
    | false => rw [show m = 0 from (h1 rfl).1]
    | true =>
      obtain ⟨⟨u, hu, f1, f2, _⟩, _⟩ := h2 rfl
      rw [cutL_nth hu] at f1
      rw [cutL_nth hu] at f2
      have f3 := cut_ge.1 f1
      have f4 := cut_ge.1 f2
      rw [meetB_iff.2 ⟨u, hu, f3.1, f3.2, f4.1, f4.2⟩] at hm
      cases hm
theorem front_has {f : Nat → Int} {k : Int} {F : List Int} (hF : IsFront f n k F) : (hasL n f k = true ↔ 0 < F.length) := by
  rw [hasL_iff]
  constructor
  · rintro ⟨v, hv, e⟩
    exact List.length_pos_of_mem ((hF.2 (v : Int)).2 ⟨by omega, by omega, by rw [Int.toNat_natCast]; exact e⟩)
  · intro h
    obtain ⟨x, hx⟩ := List.exists_mem_of_length_pos h
    obtain ⟨h1, h2, h3⟩ := (hF.2 x).1 hx
    exact ⟨x.toNat, by omega, h3⟩
end
/-- how far, and whether -/
def distN (d : Int) : Int := if 0 ≤ d then d else 0
def distB (d : Int) : Bool := decide (0 ≤ d)
theorem stepsK_meet {n m k : Nat} {f g : Nat → Int} (h : meetB n f g k = true) : stepsK n f g (m + 1) k = k := by unfold stepsK; rw [if_pos h]
theorem stepsK_end {n m k : Nat} {f g : Nat → Int} (h : meetB n f g k = false) (h2 : ¬ (hasL n f (k + 1) = true ∧ hasL n g (k + 1) = true)) : stepsK n f g (m + 1) k = k := by
  unfold stepsK; rw [if_neg (by rw [h]; simp), if_neg h2]
theorem stepsK_go {n m k : Nat} {f g : Nat → Int} (h : meetB n f g k = false) (h2 : hasL n f (k + 1) = true ∧ hasL n g (k + 1) = true) : stepsK n f g (m + 1) k = stepsK n f g m (k + 1) := by
  conv => lhs; unfold stepsK
  rw [if_neg (by rw [h]; simp), if_pos h2]
end Go.Proofs.Ytkekibnhmfmhmaa
/- The path from place to place, in plain words. -/
namespace Go.Proofs.Ytkekibnhmfmhmaa
open Go Go.RowKit
section
variable {nx nb : Nat → List Int} {n t : Nat} (h : Rev nx nb n) (ht : t < n) (hin : InN nx n)
include h ht hin in
/-- a place that is a step nearer is there -/
theorem stepL_is {u k : Nat} (hu : u < n) (hk : lev nb n t u = (k + 1 : Nat)) : ∃ x, (nx u).find? (fun x => lev nb n t x.toNat == lev nb n t u - 1) = some x ∧ x ∈ nx u ∧ 0 ≤ x ∧ x < n ∧ stepL nx (lev nb n t) u = x.toNat ∧ lev nb n t x.toNat = k := by
  obtain ⟨y, hy, h1, h2⟩ := (lev_ok nb n t ht).pred u hu (by omega)
  have h3 := (h u y hu hy).2 h2
  cases hf : (nx u).find? (fun x => lev nb n t x.toNat == lev nb n t u - 1) with
  | none =>
    have := List.find?_eq_none.1 hf (y : Int) h3
    rw [Int.toNat_natCast] at this
    exact absurd (by simpa using h1) this
  | some x =>
    have hx := List.mem_of_find?_eq_some hf
    have hp := List.find?_some hf
    have hb := hin u hu x hx
    refine ⟨x, rfl, hx, hb.1, hb.2, ?_, ?_⟩
    · unfold stepL; rw [hf]; rfl
    · have : lev nb n t x.toNat = lev nb n t u - 1 := by simpa using hp
      omega
include h ht hin in
theorem pathL_at : ∀ (k u : Nat), u < n → lev nb n t u = k → ∀ i, i ≤ k → nth (pathL nx (lev nb n t) k u) i < n ∧ lev nb n t (nth (pathL nx (lev nb n t) k u) i) = ((k - i : Nat) : Int) ∧
    (pathL nx (lev nb n t) k u).drop i = pathL nx (lev nb n t) (k - i) (nth (pathL nx (lev nb n t) k u) i)
  | 0, u, hu, hk, i, hi => by
    obtain rfl : i = 0 := by omega
    exact ⟨hu, hk, rfl⟩
  | k + 1, u, hu, hk, 0, _ => ⟨hu, hk, rfl⟩
  | k + 1, u, hu, hk, i + 1, hi => by
    obtain ⟨x, _, _, h2, h3, h4, h5⟩ := stepL_is h ht hin hu hk
    have := pathL_at k x.toNat (by omega) h5 i (by omega)
    rw [pathL, h4]
    rw [show k + 1 - (i + 1) = k - i by omega]
    exact this
include h ht hin in
theorem pathL_next {k u : Nat} (hu : u < n) (hk : lev nb n t u = k) {i : Nat} (hi : i < k) : ((nth (pathL nx (lev nb n t) k u) (i + 1) : Nat) : Int) ∈ nx (nth (pathL nx (lev nb n t) k u) i) ∧
    nth (pathL nx (lev nb n t) k u) (i + 1) = stepL nx (lev nb n t) (nth (pathL nx (lev nb n t) k u) i) := by
  obtain ⟨h1, h2, h3⟩ := pathL_at h ht hin k u hu hk i (by omega)
  obtain ⟨j, hj⟩ : ∃ j, k - i = j + 1 := ⟨k - i - 1, by omega⟩
  rw [hj] at h2 h3
  obtain ⟨x, _, g1, g2, g3, g4, g5⟩ := stepL_is h ht hin h1 h2
  have e : nth (pathL nx (lev nb n t) k u) (i + 1) = stepL nx (lev nb n t) (nth (pathL nx (lev nb n t) k u) i) := by
    have e1 : nth ((pathL nx (lev nb n t) k u).drop i) 1 = nth (pathL nx (lev nb n t) k u) (i + 1) := by
      unfold nth; rw [List.getD_eq_getElem?_getD, List.getD_eq_getElem?_getD, List.getElem?_drop]
    rw [← e1, h3]
    cases j with
    | zero => rfl
    | succ j => rfl
  refine ⟨?_, e⟩
  rw [e, g4, Int.toNat_of_nonneg g2]
  exact g1
include h ht hin in
theorem pathL_last {k u : Nat} (hu : u < n) (hk : lev nb n t u = k) : nth (pathL nx (lev nb n t) k u) k = t := by
  obtain ⟨h1, h2, _⟩ := pathL_at h ht hin k u hu hk k (Nat.le_refl _)
  exact ((lev_ok nb n t ht).zero _ h1).1 (by rw [h2]; simp)
theorem pathL_first (nx : Nat → List Int) (g : Nat → Int) (k u : Nat) : nth (pathL nx g k u) 0 = u := by cases k <;> rfl
include h ht hin in
theorem pathL_nodup {k u : Nat} (hu : u < n) (hk : lev nb n t u = k) : (pathL nx (lev nb n t) k u).Nodup := by
  rw [List.nodup_iff_pairwise_ne, List.pairwise_iff_getElem]
  intro i j hi hj hij e
  rw [pathL_len] at hi hj
  have h1 := (pathL_at h ht hin k u hu hk i (by omega)).2.1
  have h2 := (pathL_at h ht hin k u hu hk j (by omega)).2.1
  rw [nth_eq (by rw [pathL_len]; omega)] at h1
  rw [nth_eq (by rw [pathL_len]; omega)] at h2
  rw [e] at h1
  omega
end
/-- what stands ahead of the first one that is found is less, and is not it -/
theorem find_less {l : List Int} (hl : Rises ltI l) {p : Int → Bool} {x y : Int} (hf : l.find? p = some x) (hy : y ∈ l) (hlt : y < x) : p y = false := by
  obtain ⟨hx, a, b, rfl, ha⟩ := List.find?_eq_some_iff_append.1 hf
  rcases List.mem_append.1 hy with h | h
  · have := ha y h; simpa using this
  · rcases List.mem_cons.1 h with rfl | h
    · omega
    · have h1 := (List.pairwise_append.1 hl).2.1
      have h2 := (List.pairwise_cons.1 h1).1 y h
      simp [ltI] at h2; omega
end Go.Proofs.Ytkekibnhmfmhmaa
/- Rows of a graph: laid in one sweep, or place by place. No program in sight. -/
namespace Go.Proofs.Ytkekibnhmfmhmaa
open Go Go.RowKit
/-- offsets: how many edges come ahead of a place -/
def offL (n : Nat) (E : List (Int × Int)) : List Int := (List.range (n + 1)).map fun (j : Nat) => ((E.countP fun x => decide (x.1 < (j:Int))) : Int)
def toL (E : List (Int × Int)) : List Int := E.map (·.2)
theorem offL_len (n : Nat) (E : List (Int × Int)) : (offL n E).length = n + 1 := by simp [offL]
theorem offL_nth {n j : Nat} (E : List (Int × Int)) (h : j < n + 1) : nth (offL n E) j = ((E.countP fun x => decide (x.1 < (j:Int))) : Int) := by
  rw [nth_eq (by rw [offL_len]; exact h)]
  simp [offL]
/-- counts, when k edges are over -/
def cntL (n : Nat) (E : List (Int × Int)) : List Int := (List.range (n + 1)).map fun (j : Nat) => ((E.countP fun x => decide (x.1 + 1 = (j:Int))) : Int)
theorem cntL_len (n : Nat) (E : List (Int × Int)) : (cntL n E).length = n + 1 := by simp [cntL]
theorem cntL_nth {n j : Nat} (E : List (Int × Int)) (h : j < n + 1) : nth (cntL n E) j = ((E.countP fun x => decide (x.1 + 1 = (j:Int))) : Int) := by
  rw [nth_eq (by rw [cntL_len]; exact h)]
  simp [cntL]
theorem cntL_step {n : Nat} (E : List (Int × Int)) (x : Int × Int) {k : Nat} (hk : x.1 = (k:Int)) (hn : k < n) : cntL n (E ++ [x]) = (cntL n E).set (k + 1) (nth (cntL n E) (k + 1) + 1) := by
  apply List.ext_getElem
  · simp [cntL]
  · intro i h1 h2
    rw [List.getElem_set]
    by_cases e : k + 1 = i
    · subst e
      rw [if_pos rfl, cntL_nth E (by omega)]
      simp [cntL, List.countP_append, hk]
    · rw [if_neg e]
      have : ¬ ((k:Int) + 1 = (i:Int)) := by omega
      simp [cntL, List.countP_append, hk, this]
/-- sums, when v places are over -/
def sumL (n : Nat) (E : List (Int × Int)) (v : Nat) : List Int := (List.range (n + 1)).map fun (j : Nat) => if j ≤ v then ((E.countP fun x => decide (x.1 < (j:Int))) : Int) else ((E.countP fun x => decide (x.1 + 1 = (j:Int))) : Int)
theorem sumL_len (n : Nat) (E : List (Int × Int)) (v : Nat) : (sumL n E v).length = n + 1 := by simp [sumL]
theorem sumL_nth {n j v : Nat} (E : List (Int × Int)) (h : j < n + 1) : nth (sumL n E v) j = if j ≤ v then ((E.countP fun x => decide (x.1 < (j:Int))) : Int) else ((E.countP fun x => decide (x.1 + 1 = (j:Int))) : Int) := by
  rw [nth_eq (by rw [sumL_len]; exact h)]
  simp [sumL]
theorem sumL_zero {n : Nat} {E : List (Int × Int)} (h : ∀ x ∈ E, 0 ≤ x.1) : sumL n E 0 = cntL n E := by
  apply List.ext_getElem
  · simp [sumL, cntL]
  · intro i h1 h2
    simp only [sumL, cntL, List.getElem_map, List.getElem_range]
    by_cases e : i ≤ 0
    · obtain rfl : i = 0 := by omega
      rw [if_pos e]
      rw [List.countP_eq_zero.2 fun x hx => by have := h x hx; simp; omega, List.countP_eq_zero.2 fun x hx => by have := h x hx; simp; omega]
    · rw [if_neg e]
theorem sumL_end (n : Nat) (E : List (Int × Int)) : sumL n E n = offL n E := by
  apply List.ext_getElem
  · simp [sumL, offL]
  · intro i h1 h2
    simp only [sumL, offL, List.getElem_map, List.getElem_range]
    rw [if_pos (by simp [sumL] at h1; omega)]
theorem count_step (E : List (Int × Int)) (v : Nat) : (E.countP fun x => decide (x.1 < ((v + 1 : Nat):Int))) = (E.countP fun x => decide (x.1 + 1 = ((v + 1 : Nat):Int))) + E.countP fun x => decide (x.1 < (v:Int)) := by
  induction E with
  | nil => rfl
  | cons x E ih =>
    simp only [List.countP_cons]
    rw [ih]
    by_cases h1 : x.1 < (v:Int)
    · have h2 : x.1 < ((v + 1 : Nat) : Int) := by omega
      have h3 : ¬ (x.1 + 1 = ((v + 1 : Nat):Int)) := by omega
      simp only [h1, h2, h3, decide_true, decide_false, if_true, Bool.false_eq_true, if_false]; omega
    · by_cases h2 : x.1 + 1 = ((v + 1 : Nat) : Int)
      · have h3 : x.1 < ((v + 1 : Nat) : Int) := by omega
        simp only [h1, h2, h3, decide_true, decide_false, if_true, Bool.false_eq_true, if_false]; omega
      · have h3 : ¬ x.1 < ((v + 1 : Nat) : Int) := by omega
        simp only [h1, h2, h3, decide_false, Bool.false_eq_true, if_false]; omega
theorem sumL_step {n : Nat} (E : List (Int × Int)) {v : Nat} (hv : v < n) : sumL n E (v + 1) = (sumL n E v).set (v + 1) (nth (sumL n E v) (v + 1) + nth (sumL n E v) v) := by
  apply List.ext_getElem
  · simp [sumL]
  · intro i h1 h2
    rw [List.getElem_set]
    by_cases e : v + 1 = i
    · subst e
      rw [if_pos rfl, sumL_nth E (by omega), sumL_nth E (by omega), if_neg (by omega), if_pos (Nat.le_refl _)]
      simp only [sumL, List.getElem_map, List.getElem_range]
      rw [if_pos (Nat.le_refl _), count_step]
      omega
    · rw [if_neg e]
      simp only [sumL, List.getElem_map, List.getElem_range]
      by_cases e2 : i ≤ v
      · rw [if_pos e2, if_pos (by omega)]
      · rw [if_neg e2, if_neg (by omega)]
/-! ### place by place -/
def placeE (E : List (Int × Int)) (v : Nat) : List (Int × Int) := E.filter fun x => decide (x.1 = (v:Int))
def placesK (E : List (Int × Int)) (k : Nat) : List (Int × Int) := (List.range k).flatMap (placeE E)
theorem placesK_step (E : List (Int × Int)) (k : Nat) : placesK E (k + 1) = placesK E k ++ placeE E k := by
  unfold placesK; rw [List.range_succ, List.flatMap_append]; simp
theorem placesK_mem {E : List (Int × Int)} {k : Nat} {x : Int × Int} : x ∈ placesK E k ↔ x ∈ E ∧ ∃ v : Nat, v < k ∧ x.1 = (v:Int) := by
  unfold placesK placeE
  simp only [List.mem_flatMap, List.mem_range, List.mem_filter, decide_eq_true_eq]
  constructor
  · rintro ⟨v, h1, h2, h3⟩; exact ⟨h2, v, h1, h3⟩
  · rintro ⟨h1, v, h2, h3⟩; exact ⟨v, h2, h1, h3⟩
theorem placesK_len (E : List (Int × Int)) (h : ∀ x ∈ E, 0 ≤ x.1) : ∀ k : Nat, (placesK E k).length = E.countP fun x => decide (x.1 < (k:Int))
  | 0 => by
    rw [List.countP_eq_zero.2 fun x hx => by have := h x hx; simp; omega]; rfl
  | k + 1 => by
    rw [placesK_step, List.length_append, placesK_len E h k, count_step]
    have : (placeE E k).length = E.countP fun x => decide (x.1 + 1 = ((k + 1 : Nat):Int)) := by
      unfold placeE
      rw [List.countP_eq_length_filter]
      congr 1
      apply List.filter_congr
      intro x _
      rw [decide_eq_decide]; omega
    omega
theorem lessE_iff {a b : Int × Int} : lessE a b = true ↔ a.1 < b.1 ∨ a.1 = b.1 ∧ a.2 < b.2 := by unfold lessE; simp
theorem placesK_rises {E : List (Int × Int)} (h : Rises lessE E) : ∀ k, Rises lessE (placesK E k)
  | 0 => List.Pairwise.nil
  | k + 1 => by
    rw [placesK_step]
    refine List.pairwise_append.2 ⟨placesK_rises h k, h.sublist List.filter_sublist, fun a ha b hb => ?_⟩
    obtain ⟨_, v, h1, h2⟩ := placesK_mem.1 ha
    unfold placeE at hb
    rw [List.mem_filter, decide_eq_true_eq] at hb
    rw [lessE_iff]; omega
theorem places_all {E : List (Int × Int)} (h : Rises lessE E) {k : Nat} (hb : ∀ x ∈ E, 0 ≤ x.1 ∧ x.1 < k) : placesK E k = E :=
  rises_uniq stoE _ _ (placesK_rises h k) h fun x => by
    rw [placesK_mem]
    exact ⟨fun h => h.1, fun hx => ⟨hx, x.1.toNat, by have := hb x hx; omega, by have := hb x hx; omega⟩⟩
/-- the same, turned -/
theorem placeE_turn {E : List (Int × Int)} (h : Rises lessE E) (v : Nat) : placeE (putAll lessE (E.map swapE)) v = (E.filter fun x => decide (x.2 = (v:Int))).map swapE := by
  refine rises_uniq stoE _ _ ((putAll_rises stoE _).sublist List.filter_sublist) ?_ fun x => ?_
  · rw [Rises, List.pairwise_map]
    refine (h.sublist List.filter_sublist).imp_of_mem fun {a b} ha hb hab => ?_
    rw [List.mem_filter, decide_eq_true_eq] at ha hb
    rw [lessE_iff] at hab ⊢
    unfold swapE
    simp only
    omega
  · unfold placeE
    rw [List.mem_filter, putAll_mem stoE, List.mem_map, List.mem_map]
    simp only [List.mem_filter, decide_eq_true_eq]
    constructor
    · rintro ⟨⟨y, h1, rfl⟩, h2⟩; exact ⟨y, ⟨h1, h2⟩, rfl⟩
    · rintro ⟨y, ⟨h1, h2⟩, rfl⟩; exact ⟨⟨y, h1, rfl⟩, h2⟩
end Go.Proofs.Ytkekibnhmfmhmaa
/- A range over a function in the new style: regions that draw their order within a round; pieces of memory under the law's own book-keeping. -/
namespace Go.Proofs.Ytkekibnhmfmhmaa
open Go Go.RowKit
section
variable {F : Fence} {n : Nat} {P : Program}
theorem wpQuietIn_of {ops : Array Oper} {C : World → Prop} {Q : Act → Prop} : ∀ {l : List Oper} {a : Act}, wpQuiet P ops C Q l a → wpQuietIn Fence.wide n P ops C Q l a
  | [], _, h => h
  | o :: l, a, h => by
    unfold wpQuiet at h
    unfold wpQuietIn
    refine ⟨fun _ _ _ _ => trivial, ?_⟩
    split
    · rename_i hw
      rw [if_pos hw] at h
      obtain ⟨v, hv, hk⟩ := h
      refine ⟨v, fun w hw => ?_, wpQuietIn_of hk⟩
      have := hv w hw
      unfold Oper.quietAt at this
      unfold Oper.quietAtIn
      generalize (execOp a.eval o).run P w = r at this
      cases r with
      | ok x w' =>
        cases x <;> first | exact this | exact this.elim | skip
        obtain ⟨h1, h2⟩ := this
        exact ⟨h1, fun h => by simp [Fence.wide] at h, callsIn_wide.2 h2⟩
      | halt x w' => exact this.elim
    · rename_i hw
      rw [if_neg hw] at h
      exact wpQuietIn_of h
theorem wpOpIn_round {r : Nat} {ops : Array Oper} {Q : Exit → Act → World → Prop} {i : Nat} {K K' : Act → World → Prop} {a : Act} {w : World} (_ : F.round = none) (hnd : ∀ (i : Nat) (o : Oper), ops[i]? = some o → ∀ c, o.op ≠ .defer c)
    (hK : ∀ a w, K a w → K' a w) (h : wpOpIn F n P ops Q i K a w) : wpOpIn (F.inRound r) n P ops Q i K' a w := by
  have h := wpOpIn_mono hK h
  unfold wpOpIn at h ⊢
  split
  · rename_i ho; rw [ho] at h; exact h
  · rename_i o ho
    rw [ho] at h
    simp only at h
    split
    · rename_i hw
      rw [if_pos hw] at h
      refine ⟨h.1, ?_⟩
      have h2 := h.2
      rw [Oper.semAt_eq _ _ _ (hnd i o ho)] at h2 ⊢
      exact h2
    · rename_i hw
      rw [if_neg hw] at h
      exact h
theorem wpAnyIn_round {r : Nat} {md : Region.Mode} {ops : Array Oper} {Q : Exit → Act → World → Prop} (hro : F.round = none) (hnd : ∀ (i : Nat) (o : Oper), ops[i]? = some o → ∀ c, o.op ≠ .defer c) :
    ∀ (fuel : Nat) (listed : Array Bool) (a : Act) (w : World), wpAnyIn F n P md ops Q fuel listed a w → wpAnyIn (F.inRound r) n P md ops Q fuel listed a w
  | 0, _, _, _, h => h
  | fuel + 1, _, _, _, h => ⟨h.1, fun i hi => wpOpIn_round hro hnd (fun a w => wpAnyIn_round hro hnd fuel _ a w) (h.2 i hi)⟩
def noDefer (o : Oper) : Bool := match o.op with | .defer _ => false | _ => true
/-- a region that draws its order, within a round: as outside of it -/
theorem wpIn_region_ext {r : Nat} {id : Nat} {Q : Exit → Act → World → Prop} {a : Act} {w : World} {l : List Oper} (hm : P.follows .mixedOrders = true) (hB : Region.lexB .any l.toArray = true) (hd : l.all noDefer = true)
    (h : wpQuiet P l.toArray (fun w' => ∃ x : ExtOf w, w' = x.val) (fun a' => ∀ w', (∃ x : ExtOf w, w' = x.val) → Q .normal a' w') l a) : (Code.region id l.toArray true).wpIn (Fence.wide.inRound r) n P Q a w := by
  have hnd : ∀ (i : Nat) (o : Oper), l.toArray[i]? = some o → ∀ c, o.op ≠ .defer c := fun i o ho c e => by
    have := List.all_eq_true.1 hd o (List.mem_of_getElem? (by simpa using ho))
    unfold noDefer at this
    rw [e] at this
    cases this
  have hB0 := hB
  simp only [Region.lexB, Bool.and_eq_true] at hB
  refine wpIn_region_any hm (wpAnyIn_round rfl hnd _ _ _ _ (wpAnyIn_of_quiet (C := fun w' => ∃ x : ExtOf w, w' = x.val) (Q := fun a' => ∀ w', (∃ x : ExtOf w, w' = x.val) → Q .normal a' w') rfl (fun _ w' hw' h => h w' hw') _ _ _ _ ⟨⟨{ w with drawn := w.drawn + 1 }, ⟨rfl, rfl, rfl, Nat.le_refl _, fun _ _ => rfl⟩⟩, rfl⟩ ?_))
  have := wpAnyQIn_lex (F := Fence.wide) (n := n) (C := fun w' => ∃ x : ExtOf w, w' = x.val) (md := .any) hB.1 l 0 (Array.replicate l.toArray.size false) a (by simp) (by simpa using hB.2) (wpQuietIn_of h)
  simpa using this
end
section
variable {P : Program} {n r : Nat}
theorem rowsIn_of {row : String} {args : Array Value} {w : World} {R : Value → World → Prop} (h : Rows P row args w R) : RowsIn Fence.wide n P row args w R := fun c cs _ => let ⟨v, w', hr, s⟩ := h c cs; ⟨v, w', hr, stepsIn_wide.2 s⟩
theorem wpListIn_round {ops : Array Oper} {Q : Exit → Act → World → Prop} (hL : ¬ LetsOut Q) : ∀ (l : List Oper) (a : Act) (w : World), l.all noDefer = true → wpList P ops Q l a w → wpListIn (Fence.wide.inRound r) n P ops Q l a w
  | [], _, _, _, h => h
  | o :: l, a, w, hd, h => by
    rw [List.all_cons, Bool.and_eq_true] at hd
    have hnd : ∀ c, o.op ≠ .defer c := fun c e => by
      have := hd.1
      unfold noDefer at this
      rw [e] at this
      cases this
    unfold wpList at h
    unfold wpListIn
    split
    · rename_i hw
      rw [if_pos hw] at h
      rcases h with h | h
      · refine ⟨fun _ _ => trivial, ?_⟩
        rw [Oper.semAt_eq _ _ _ hnd]
        unfold Oper.wp at h
        generalize (execOp a.eval o).run P w = res at h
        unfold Oper.upon at h
        unfold Oper.uponIn
        split at h
        · exact wpListIn_round hL l _ _ hd.2 h
        · exact wpListIn_round hL l _ _ hd.2 h
        · exact wpListIn_round hL l _ _ hd.2 h
        · refine ⟨fun h => by simp [Fence.wide] at h, CallsIn.inRound r ((callsIn_wide.2 h).mono fun e w'' hr => ?_)⟩
          cases e with
          | returned v => exact wpListIn_round hL l _ _ hd.2 hr
          | panicked chain => exact hr
          | outgrown => exact hr
        · exact ⟨fun h => by simp [Fence.wide] at h, (rowsIn_of h).mono fun v w'' hr => wpListIn_round hL l _ _ hd.2 hr⟩
        · exact h
        · exact h.elim
      · exact absurd h.2 hL
    · rename_i hw
      rw [if_neg hw] at h
      exact ⟨fun _ _ => trivial, wpListIn_round hL l _ _ hd.2 h⟩
/-- a region of one order, within a round: as outside of it -/
theorem wpIn_region_list {id : Nat} {l : List Oper} {Q : Exit → Act → World → Prop} {a : Act} {w : World} (hL : ¬ LetsOut Q) (hd : l.all noDefer = true) (h : wpList P l.toArray Q l a w) : (Code.region id l.toArray false).wpIn (Fence.wide.inRound r) n P Q a w :=
  wpIn_region_lit (wpListIn_round hL l a w hd h)
end
theorem Kn.pick {w : World} {Φ : List (World → Prop)} (h : Kn w Φ) (is : List Nat) : Kn w (is.filterMap fun i => Φ[i]?) := fun φ hφ => by
  obtain ⟨i, _, hi⟩ := List.mem_filterMap.1 hφ
  exact h φ (List.mem_of_getElem? hi)
/-- every block that the piece lies in is cells -/
def Pc.cells (p : Pc) : Prop := ∀ w, p.holds w → ∀ k, p.foot k → ∃ o : Obj, w.heap[k]? = some o ∧ o.isCells = true
theorem Pc.blk_cells (g : Nat) (t : TypeId) (cs : Array Value) : (Pc.blk g t cs).cells := fun _ h k e => by
  cases e
  have h : Blk _ g t cs := h
  exact ⟨_, h, rfl⟩
theorem Pc.own_cells (e : TypeId) (size : Nat) (q : Option Addr) (n c : Nat) (xs : List Value) : (Pc.own e size q n c xs).cells := fun w h k hk => by
  have h : w.ownsRow 0 e size (.slice q n c) n xs := h
  rcases h.2 with ⟨h1, h2⟩ | ⟨g, cap, cur, h1, hg, hh, _⟩
  · subst h2
    rcases h.2 with ⟨h3, _⟩ | ⟨g, cap, cur, h1, hg, hh, _⟩
    · injection h3 with h3; subst h3; cases hk
    · injection h1 with h1; subst h1
      obtain rfl : g = k := by injection hk
      exact ⟨_, hh, rfl⟩
  · injection h1 with h1; subst h1
    obtain rfl : g = k := by injection hk
    exact ⟨_, hh, rfl⟩
/-- a turn of a new block that is no cells leaves pieces of cells as they are -/
theorem Sep.turn {w0 w w' : World} {Γ : List Pc} {row : Option Nat} {B : Nat} (S : Sep w0 w Γ) (hΓ : ∀ p ∈ Γ, p.cells) (hB : w0.heap.size ≤ B) (hg : w.grownBy w' row) (hr : ∀ r, row = some r → B ≤ r ∧ ∃ o : Obj, w.heap[r]? = some o ∧ o.isCells = false) : Sep w0 w' Γ := by
  refine ⟨Below.trans S.ext ⟨hg.os, hg.tape, hg.output, hg.size, fun k hk => hg.block k (Nat.lt_of_lt_of_le hk S.ext.size) fun e => ?_⟩, fun p hp => p.loc w w' (S.all p hp) fun k hk => hg.block k (S.lt hp hk) fun e => ?_, S.new, S.apart⟩
  · have := (hr k e.symm).1; omega
  · obtain ⟨_, o, h1, h2⟩ := hr k e.symm
    obtain ⟨o', h3, h4⟩ := hΓ p hp w (S.all p hp) k hk
    rw [h1] at h3; injection h3 with h3; subst h3; rw [h2] at h4; cases h4
/-- pieces of cells as what a loop over an iterator keeps -/
theorem sep_ownFrom {β : Type} {w0 : World} {B : Nat} (f : β → World → Prop) (hB : w0.heap.size ≤ B) (h : ∀ s W, f s W → ∃ Γ, (∀ p ∈ Γ, p.cells) ∧ Sep w0 W Γ ∧ ∀ W', Sep w0 W' Γ → f s W') : OwnFrom B f :=
  fun s W W' row hs hg hr => by
    obtain ⟨Γ, h1, h2, h3⟩ := h s W hs
    exact h3 W' (h2.turn h1 hB hg hr)
theorem cells_all {Γ : List Pc} (h : ∀ p ∈ Γ, (∃ g t cs, p = Pc.blk g t cs) ∨ ∃ e size q n c xs, p = Pc.own e size q n c xs) : ∀ p ∈ Γ, p.cells := fun p hp => by
  rcases h p hp with ⟨g, t, cs, rfl⟩ | ⟨e, size, q, n, c, xs, rfl⟩
  · exact Pc.blk_cells _ _ _
  · exact Pc.own_cells _ _ _ _ _ _
/-- the block for the rounds' deferred calls, turned once more: what was there when the call began stays -/
theorem Sep.putObj {w0 w : World} {Γ : List Pc} (S : Sep w0 w Γ) (hΓ : ∀ p ∈ Γ, p.cells) {D : Nat} {o : Obj} (o' : Obj) (hD : w0.heap.size ≤ D) (hK : w.heap[D]? = some o) (ho : o.isCells = false) : Sep w0 (w.putObj D o') Γ :=
  S.turn hΓ hD (grownBy_putObj' w D o') fun r e => by cases e; exact ⟨Nat.le_refl _, o, hK, ho⟩
theorem keeps_ext {W W' : World} (h : Ext W W') : KeepsOthers W W' := ⟨h.size, fun k _ hk _ => (h.block k (Array.getElem?_eq_some_iff.1 hk).1).trans hk⟩
/-- append onto a piece, in a loop over an iterator: whatever is no cells stays, too -/
theorem wpList_append_sepK {P : Program} {w0 w : World} {Γ : List Pc} {ops : Array Oper} {rest : List Oper} {o : Oper} {a : Act} {Q : Exit → Act → World → Prop} (hgd : o.guard = none) (s x : Operand) (t : TypeId)
    (ho : o.op = .call { callee := .builtin .append, args := #[s, x], argTypes := #[t, t] })
    (e : TypeId) (i : TypeInfo) (z : Value) (size bytes : Nat) (ht : P.underlying t = some (.slice e)) (hi : P.info? e = some i) (hz : i.zero = some z)
    (hsize : i.size = size) (hby : i.bytes = bytes) (hzs : z.cells.size = size) (hsz : 0 < size)
    (S : Sep w0 w Γ) (j : Nat) (q : Option Addr) (n cq : Nat) (xs : List Value) (hs : a.eval s = .slice q n cq) (hj : Γ[j]? = some (.own e size q n cq xs))
    (A : Option Addr) (m c : Nat) (news : List Value) (hx : a.eval x = .slice A m c) (hr : Rd w size A m news) (h1 : ∀ u ∈ news, u.oneCell' = true)
    (hbytes : (n + m) * bytes ≤ 140737488355328) (h63 : n + m ≤ 140737488355328)
    (h : ∀ q' c' w', Sep w0 w' (Γ.set j (.own e size q' (n + m) c' (xs ++ news))) → w.heap.size ≤ w'.heap.size → KeepsOthers w w' → wpList P ops Q rest (a.put o.dst (.slice q' (n + m) c')) w') : wpList P ops Q (o :: rest) a w := by
  refine wpList_append_rd hgd s x t ho w0.heap.size e i z size bytes ht hi hz hsize hby hzs hsz q n cq xs hs (S.own j hj) A m c news hx hr h1 hbytes h63 S.ext.size ?_
  intro q' c' w' ho' hg hat _
  refine h q' c' w' (S.put j hj _ hg (fun k hk => hk) (own_base ho' (Nat.zero_le _)) fun k hk => ?_) hg.size (KeepsOthers.of_grownBy hg fun k o ek hk => ?_)
  · rcases hat with h | h
    · exact .inl (h.symm.trans hk)
    · have : some w.heap.size = some k := h.symm.trans hk
      injection this with this
      exact .inr (by omega)
  · obtain ⟨o', h1, h2⟩ := Pc.own_cells e size q n cq xs w (S.all _ (List.mem_of_getElem? hj)) k ek
    rw [hk] at h1; injection h1 with h1; subst h1; exact h2
end Go.Proofs.Ytkekibnhmfmhmaa
/- The program's rows: sorted offsets, numbers within, and the iterator over all pairs. -/
namespace Go.Proofs.Ytkekibnhmfmhmaa
open Go Go.RowKit Go.Shelf Go.Lib
theorem lessI (x y : Int) (w : World) : Calls Try.prog 56 #[.int .i64 x, .int .i64 y] w fun e w' => e = .returned (.bool (decide (x < y))) ∧ Ext w w' :=
  (Any.cmp_Less_int2 { Try.binI with } x y w).mono fun e w' ⟨h1, h2⟩ => ⟨h1, by rw [h2]; exact Below.refl _ _⟩
set_option maxHeartbeats 1000000 in
theorem IsSortedI (p : Option Addr) (n c : Nat) (l : List Int) (w : World) (hl : Rd w 1 p n (encI l)) (h0 : 0 < n) :
    Calls Try.prog 54 #[.slice p n c] w fun e w' => e = .returned (.bool (sortB l)) ∧ Ext w w' := by
  have p1 := hl.ptr
  have n1 := hl.small
  have l1 := hl.nI
  have HL := Lib.hid hl; clear hl
  have L1 := Lib.hid l1; clear l1
  go_enter Try.func54, Try.ntmps54
  go_wp2
  go_loopw [3] (fun i wr => ∃ j : Nat, j < n ∧ i = .int .i64 j ∧ (∀ v, j ≤ v → v + 1 < n → nth l v ≤ nth l (v + 1)) ∧ Ext w wr) (fun i _ => (intOf i).toNat)
  case atStart => exact ⟨n - 1, by omega, by go_num, fun v h1 h2 => by omega, Below.refl _ _⟩
  case round =>
    obtain ⟨j, hj, rfl, ha, hE⟩ := hrel
    have HA := Lib.hid ha; clear ha
    rcases Nat.eq_zero_or_pos j with hz | hz
    · subst hz
      have HF : Hid (sortB l = true) := by
        unfold Hid sortB
        rw [List.all_eq_true]
        intro v hv
        rw [List.mem_range] at hv
        exact decide_eq_true (HA.out v (by omega) (by rw [L1.out]; omega))
      have HE := Lib.hid hE; clear hE
      go_wp2
      go_ret
      exact ⟨ret_bool HF.out.symm, HE.out⟩
    · have g1 := hE.cell (HL.out.cI hj)
      have g2 := hE.cell (HL.out.cI (k := j - 1) (by omega))
      have d1 : decide ((0:Int) < (j:Int)) = true := by simp; omega
      have d1n : decide (0 < j) = true := by simp; omega
      have d2 : (0:Int) ≤ j := by omega
      have d3 : (j:Int) < n := by omega
      have d4 : (1:Int) ≤ (j:Int) := by omega
      have d5 : (j:Int) - 1 < n := by omega
      have d6 : (0:Int) ≤ (j:Int) - 1 := by omega
      have HLs := Lib.hid (fun x : ExtOf wr => lessI (nth l j) (nth l (j - 1)) x.val)
      have HE := Lib.hid hE; clear hE
      by_cases hlt : nth l j < nth l (j - 1)
      · rw [decide_eq_true hlt] at HLs
        have HF : Hid (sortB l = false) := by
          unfold Hid sortB
          refine range_all_no _ _ (j - 1) (by rw [← L1.out]; omega) ?_
          rw [show j - 1 + 1 = j by omega]
          simp; exact hlt
        go_wp2
        have x1 := fun x : ExtOf wr => x.ext.cell g1
        have x2 := fun x : ExtOf wr => x.ext.cell g2
        refine wp_region_ext (by kernel_rfl) (by kernel_rfl) ?_
        repeat (go_big_quiet_step (((go_at_call 56; exact Calls.ext_of (HLs.out _)))))
        refine wpQuiet_nil ?_
        rintro w1 ⟨⟨_, hb1⟩, rfl⟩
        go_wp2
        go_ret
        exact ⟨ret_bool HF.out.symm, Ext.trans HE.out hb1⟩
      · rw [decide_eq_false hlt] at HLs
        go_wp2
        have x1 := fun x : ExtOf wr => x.ext.cell g1
        have x2 := fun x : ExtOf wr => x.ext.cell g2
        refine wp_region_ext (by kernel_rfl) (by kernel_rfl) ?_
        repeat (go_big_quiet_step (((go_at_call 56; exact Calls.ext_of (HLs.out _)))))
        refine wpQuiet_nil ?_
        rintro w1 ⟨⟨_, hb1⟩, rfl⟩
        go_wp2
        go_roundw
        case rel => exact ⟨j - 1, by omega, by go_num, fun v h1 h2 => by
          by_cases h3 : v = j - 1
          · subst h3; rw [show j - 1 + 1 = j by omega]; omega
          · exact HA.out v (by omega) h2, Ext.trans HE.out hb1⟩
        case measure => simp [intOf]; omega
def withB (m : Int) (l : List Int) : Bool := l.all fun x => decide (0 ≤ x) && decide (x ≤ m)
set_option maxHeartbeats 1000000 in
theorem withinG (m : Int) (p : Option Addr) (n c : Nat) (l : List Int) (w : World) (hl : Rd w 1 p n (encI l)) :
    Calls Try.prog 52 #[.int .i64 m, .slice p n c] w fun e w' => e = .returned (.bool (withB m l)) ∧ w = w' := by
  have p1 := hl.ptr
  have n1 := hl.small
  have l1 := hl.nI
  have HL := Lib.hid hl; clear hl
  have L1 := Lib.hid l1; clear l1
  go_enter Try.func52, Try.ntmps52
  go_wp2
  go_loop [6, 9] (fun _ i => ∃ k : Nat, k ≤ n ∧ i = .int .i64 k ∧ (l.take k).all (fun x => decide (0 ≤ x) && decide (x ≤ m)) = true) (fun _ i => n - (intOf i).toNat)
  case atStart => exact ⟨0, Nat.zero_le _, rfl, rfl⟩
  case round =>
    obtain ⟨k, hk, rfl, ha⟩ := hrel
    have HA := Lib.hid ha; clear ha
    by_cases hlt : k < n
    · have g1 := HL.out.cI hlt
      have d1 : (0:Int) ≤ k := by omega
      have d2 : (k:Int) < n := by omega
      have hkL : k < l.length := by rw [← L1.out]; exact hlt
      by_cases h1 : nth l k < 0
      · have b1 : decide (nth l k < 0) = true := by simpa using h1
        have HF : Hid (withB m l = false) := all_false_at _ l k hkL (by simp; omega)
        go_wp2
        go_ret
        exact ⟨ret_bool HF.out.symm, rfl⟩
      · have b1 : decide (nth l k < 0) = false := by simpa using h1
        by_cases h2 : m < nth l k
        · have b2 : decide (m < nth l k) = true := by simpa using h2
          have HF : Hid (withB m l = false) := all_false_at _ l k hkL (by simp; omega)
          go_wp2
          go_ret
          exact ⟨ret_bool HF.out.symm, rfl⟩
        · have b2 : decide (m < nth l k) = false := by simpa using h2
          have HS := Lib.hid (all_step (fun x : Int => decide (0 ≤ x) && decide (x ≤ m)) l k hkL HA.out (by simp; omega))
          go_wp2
          go_round
          case rel => exact ⟨k + 1, by omega, by go_num, HS.out⟩
          case measure => simp [intOf]; omega
    · have HF : Hid (withB m l = true) := all_end _ l k (by rw [← L1.out]; exact hlt) HA.out
      go_wp2
      go_ret
      exact ⟨ret_bool HF.out.symm, rfl⟩
theorem allG (po : Option Addr) (no co : Nat) (pt : Option Addr) (nt ct : Nat) (w : World) :
    Calls Try.prog 44 #[.slice po no co, .slice pt nt ct] w fun e w' => e = .returned (.func (.func 55) #[] #[.pointer (some ⟨w.heap.size, 0, none⟩), .pointer (some ⟨w.heap.size + 1, 0, none⟩)]) ∧ w' = (w.alloc (.cells #[.slice po no co] 51)).alloc (.cells #[.slice pt nt ct] 51) := by
  go_enter Try.func44, Try.ntmps44
  go_wp2
  go_ret
  exact ⟨by simp, rfl⟩
/-- a place's row, as it is read -/
theorem Rd.rowOf {w : World} {pt : Option Addr} {nt ct : Nat} {O T : List Int} (hT : Rd w 1 pt nt (encI T)) (hok : OffOk O T) (hct : nt ≤ ct) {k : Nat} (hk : k + 1 < O.length) :
    Rd w 1 (cutp pt ct (nth O k).toNat 1) ((nth O (k + 1)).toNat - (nth O k).toNat) (encI (rowL O T k)) := by
  have h1 := hok.le k hk
  have h2 := hok.hi (k + 1) hk
  have h3 := hT.nI
  have := hT.cut (l := (nth O k).toNat) (h := (nth O (k + 1)).toNat) (by omega) (by omega) hct
  rw [encI_drop, encI_take] at this
  exact this
/-- what a round keeps -/
def KpA (n₀ b1 b2 : Nat) (W W' : World) : Prop := Below n₀ W W' ∧ W'.heap[b1]? = W.heap[b1]? ∧ W'.heap[b2]? = W.heap[b2]?
theorem KpA.trans {n₀ b1 b2 : Nat} {A B C : World} (h : KpA n₀ b1 b2 A B) (k : KpA n₀ b1 b2 B C) : KpA n₀ b1 b2 A C := ⟨Below.trans h.1 k.1, k.2.1.trans h.2.1, k.2.2.trans h.2.2⟩
theorem KpA.refl (n₀ b1 b2 : Nat) (A : World) : KpA n₀ b1 b2 A A := ⟨Below.refl _ _, rfl, rfl⟩
theorem KpA.ext {n₀ b1 b2 : Nat} {A B : World} (h : Ext A B) (hn : n₀ ≤ A.heap.size) (h1 : b1 < A.heap.size) (h2 : b2 < A.heap.size) : KpA n₀ b1 b2 A B := ⟨h.mono hn, h.block b1 h1, h.block b2 h2⟩
abbrev PairOf (O T : List Int) := { x : Int × Int // x ∈ pairs O T }
theorem pairs_at {O T : List Int} {k j : Nat} (hk : k < O.length - 1) (hj : j < (rowL O T k).length) : ((k : Int), nth (rowL O T k) j) ∈ pairs O T := mem_pairs.2 ⟨k, hk, rfl, nth_mem hj⟩
theorem rowX_take {O T : List Int} {k j : Nat} (hj : j < (rowL O T k).length) : (rowX O T k).take (j + 1) = (rowX O T k).take j ++ [((k : Int), nth (rowL O T k) j)] := by
  have h1 : j < (rowX O T k).length := by unfold rowX; rw [List.length_map]; exact hj
  rw [take_succ_nth _ j h1]
  congr 2
  rw [nth_eq h1, nth_eq hj]
  simp [rowX]
theorem pairsK_prefix {O T : List Int} {k : Nat} : ∀ d, pairsK O T k <+: pairsK O T (k + d)
  | 0 => List.prefix_refl _
  | d + 1 => by
    rw [← Nat.add_assoc, pairsK_step]
    exact (pairsK_prefix d).trans (List.prefix_append _ _)
theorem pairs_prefix {O T : List Int} {k j : Nat} (hk : k < O.length - 1) : pairsK O T k ++ (rowX O T k).take j <+: pairs O T := by
  have h1 : pairsK O T k ++ (rowX O T k).take j <+: pairsK O T (k + 1) := by
    rw [pairsK_step]
    exact (List.prefix_append_right_inj _).2 (List.take_prefix _ _)
  have h2 := pairsK_prefix (O := O) (T := T) (k := k + 1) (O.length - 1 - (k + 1))
  rw [show k + 1 + (O.length - 1 - (k + 1)) = O.length - 1 by omega] at h2
  exact h1.trans h2
end Go.Proofs.Ytkekibnhmfmhmaa
/- The iterator over all pairs: its contract. -/
namespace Go.Proofs.Ytkekibnhmfmhmaa
open Go Go.RowKit Go.Shelf Go.Lib
attribute [local go_sem] Oper.semAt_some
set_option maxRecDepth 100000 in
set_option maxHeartbeats 4000000 in
theorem all_stops (n : Nat) (hn : 1 ≤ n) (b1 b2 n₀ : Nat) (po : Option Addr) (no co : Nat) (pt : Option Addr) (nt ct : Nat) (O T : List Int) (w : World) (hw : n₀ ≤ w.heap.size)
    (h1 : Blk w b1 51 #[.slice po no co]) (h2 : Blk w b2 51 #[.slice pt nt ct]) (hO : Rd w 1 po no (encI O)) (hT : Rd w 1 pt nt (encI T)) (hO0 : 0 < no → (adr po 0).block < n₀) (hT0 : 0 < nt → (adr pt 0).block < n₀)
    (hok : OffOk O T) (hct : nt ≤ ct) :
    SeqStopsK Fence.wide n Try.prog 55 #[.pointer (some ⟨b1, 0, none⟩), .pointer (some ⟨b2, 0, none⟩)] (fun x : PairOf O T => #[Value.int .i64 x.1.1, Value.int .i64 x.1.2]) (KpA n₀ b1 b2)
      (fun ys => ys.map (·.1) = pairs O T) (fun pre => pre.map (·.1) <+: pairs O T) (pairs O T).length w := by
  intro l J Jx W hW hJ hJx hY h0
  have B1 : Blk W b1 51 #[.slice po no co] := h1.ext hW
  have B2 : Blk W b2 51 #[.slice pt nt ct] := h2.ext hW
  have RO := hO.ext hW
  have RT := hT.ext hW
  have l1 := Lib.hid RO.nI
  have l2 := Lib.hid RT.nI
  have pO := RO.ptr
  have pT := RT.ptr
  have n1 := RO.small
  have n2 := RT.small
  have w2 := hok.two
  clear h1 h2 hO hT hJx
  have HW := Lib.hid hW; clear hW
  have HJ := Lib.hid hJ; clear hJ
  have HY := Lib.hid hY; clear hY
  have HOK := Lib.hid hok; clear hok
  have HRO := Lib.hid RO; clear RO
  have HRT := Lib.hid RT; clear RT
  have c1 := B1.cell 0
  have z1 := B1.lt
  have d0 : (1:Int) ≤ no := by have := l1.out; omega
  have HB1 := Lib.hid B1; clear B1
  have HB2 := Lib.hid B2; clear B2
  refine callsIn_of_wp Try.func55 rfl trivial ?_ rfl
  simp only [Try.ntmps55, List.size_toArray, List.length_cons, List.length_nil, Nat.reduceAdd, Nat.reduceSub, Array.replicate_succ, Array.replicate_zero, List.push_toArray, List.append_toArray, List.nil_append, List.cons_append]
  gi_wp2
  gi_loopw [4, 6, 10] (fun _ _ i wr => ∃ (k : Nat) (pre : List (PairOf O T)), k ≤ no - 1 ∧ i = .int .i64 k ∧ pre.map (·.1) = pairsK O T k ∧ J pre wr ∧ KpA n₀ b1 b2 W wr) (fun _ _ i _ => (no - 1) - (intOf i).toNat)
  case atStart => exact ⟨0, [], Nat.zero_le _, rfl, rfl, h0, KpA.refl _ _ _ _⟩
  case round =>
    clear c1
    obtain ⟨k, pre, hk, rfl, hpre, hJs, hKp⟩ := hrel
    have B1' : Blk wr b1 51 #[.slice po no co] := hKp.2.1.trans HB1.out
    have B2' : Blk wr b2 51 #[.slice pt nt ct] := hKp.2.2.trans HB2.out
    have RO' := HRO.out.below hKp.1 (by simpa using hO0)
    have RT' := HRT.out.below hKp.1 (by simpa using hT0)
    have HP := Lib.hid hpre; clear hpre
    have HJs := Lib.hid hJs; clear hJs
    have HKp := Lib.hid hKp; clear hKp
    by_cases hlt : k < no - 1
    · have hk1 : k + 1 < O.length := by rw [← l1.out]; omega
      have q1 := HOK.out.lo k (by omega)
      have q2 := HOK.out.le k hk1
      have q3 := HOK.out.hi (k + 1) hk1
      have c1 := B1'.cell 0
      have c2 := B2'.cell 0
      have g1 := RO'.cI (k := k) (by omega)
      have g2 := RO'.cI (k := k + 1) (by omega)
      have hrl := Lib.hid (rowL_len HOK.out hk1)
      have RL := Lib.hid (RT'.rowOf HOK.out hct hk1)
      obtain ⟨a, ha⟩ : ∃ a : Nat, nth O k = (a : Int) := ⟨(nth O k).toNat, by omega⟩
      obtain ⟨b, hb⟩ : ∃ b : Nat, nth O (k + 1) = (b : Int) := ⟨(nth O (k + 1)).toNat, by omega⟩
      rw [ha] at g1 q1 q2 hrl RL
      rw [hb] at g2 q2 q3 hrl RL
      have hq3 : (b:Int) ≤ ct := by have := l2.out; omega
      simp only [Int.toNat_natCast] at hrl RL
      have HRL : Hid (∀ W', Below n₀ W W' → Rd W' 1 (cutp pt ct a 1) (b - a) (encI (rowL O T k))) := fun W' h => by
        have h3 := (HRT.out.below h (by simpa using hT0)).rowOf HOK.out hct hk1
        rw [ha, hb] at h3
        simpa only [Int.toNat_natCast] using h3
      have d1 : (0:Int) ≤ k := by omega
      have d2 : (k:Int) < no := by omega
      have d2b : (k:Int) < (no:Int) - 1 := by omega
      have d3 : (0:Int) ≤ (k:Int) + 1 := by omega
      have d4 : (k:Int) + 1 < no := by omega
      clear ha hb B1' B2' RO' RT' q3
      gi_wp2
      refine wpIn_wide.2 ?_
      have x1 := fun x : ExtOf wr => x.ext.cell c1
      have x2 := fun x : ExtOf wr => x.ext.cell c2
      have y1 := fun x : ExtOf wr => x.ext.cell g1
      have y2 := fun x : ExtOf wr => x.ext.cell g2
      refine wp_region_ext (by kernel_rfl) (by kernel_rfl) ?_
      repeat (go_big_quiet_step ((fail)))
      refine wpQuiet_nil ?_
      rintro w1 ⟨⟨_, hb1⟩, rfl⟩
      have pR := RL.out.ptr
      have nR := RL.out.small
      have lR := Lib.hid RL.out.nI
      gi_wp2
      gi_loopw [6, 25] (fun _ j wx => ∃ (i : Nat) (pre' : List (PairOf O T)), i ≤ b - a ∧ j = .int .i64 i ∧ pre'.map (·.1) = pairsK O T k ++ (rowX O T k).take i ∧ J pre' wx ∧ KpA n₀ b1 b2 W wx) (fun _ j _ => (b - a) - (intOf j).toNat)
      case atStart => exact ⟨0, pre, Nat.zero_le _, rfl, by rw [HP.out]; simp, HJ.out _ _ _ none HJs.out (Ext.grown hb1) (fun r e => nomatch e),
        HKp.out.trans (KpA.ext hb1 (Nat.le_trans hw (Nat.le_trans HW.out.size HKp.out.1.size)) (Nat.lt_of_lt_of_le HB1.out.lt HKp.out.1.size) (Nat.lt_of_lt_of_le HB2.out.lt HKp.out.1.size))⟩
      case round =>
        clear hb1 x1 x2 y1 y2
        obtain ⟨i, pre', hi, rfl, hp', hJ', hK'⟩ := hrel
        have RLx := HRL.out _ hK'.1
        have HP' := Lib.hid hp'; clear hp'
        have HJ' := Lib.hid hJ'; clear hJ'
        have HK' := Lib.hid hK'; clear hK'
        by_cases hli : i < b - a
        · have hin : i < (rowL O T k).length := by rw [hrl.out]; exact hli
          have f1 := RLx.cI hli
          have d5 : (0:Int) ≤ i := by omega
          have d6 : (i:Int) < ((b - a : Nat) : Int) := by omega
          have hlen : pre'.length < (pairs O T).length := by
            have h3 := (pairs_prefix (O := O) (T := T) (k := k) (j := i + 1) (by omega)).length_le
            rw [rowX_take hin, ← List.append_assoc, ← HP'.out] at h3
            simp at h3; omega
          obtain ⟨fn, tmps, assign, body, hy, hR⟩ := HY.out pre' ⟨((k : Int), nth (rowL O T k) i), pairs_at (by rw [← l1.out]; exact hlt) hin⟩ _ HJ'.out hlen
          dsimp only at hy
          clear RLx
          gi_wp2
          refine hR.mono ?_
          rintro e W3 (⟨rfl, hJ3, hk3⟩ | ⟨rfl, hJx3⟩)
          · have HJ3 := Lib.hid hJ3; clear hJ3
            have HK3 := Lib.hid hk3; clear hk3
            gi_wp2
            go_roundw
            case rel => exact ⟨i + 1, _, by omega, by go_num, by rw [List.map_append, HP'.out, rowX_take hin, List.append_assoc]; rfl, HJ3.out, HK'.out.trans HK3.out⟩
            case measure => simp [intOf]; omega
          · have HX3 := Lib.hid hJx3; clear hJx3
            gi_wp2
            refine bodyPost_ret (results_none rfl _ _ _) rfl ?_
            exact ⟨⟨_, rfl⟩, .inr ⟨_, by
              have h3 := pairs_prefix (O := O) (T := T) (k := k) (j := i + 1) (by rw [← l1.out]; exact hlt)
              rw [rowX_take hin, ← List.append_assoc, ← HP'.out] at h3
              rw [List.map_append]; exact h3, HX3.out⟩⟩
        · obtain rfl : i = b - a := by omega
          clear RLx
          gi_wp2
          go_roundw
          case rel => exact ⟨k + 1, pre', by omega, by go_num, by rw [HP'.out, pairsK_step, List.take_of_length_le (by unfold rowX; rw [List.length_map, hrl.out]; exact Nat.le_refl _)], HJ'.out, HK'.out⟩
          case measure => simp [intOf]; omega
    · obtain rfl : k = no - 1 := by omega
      have d2 : decide (((no - 1 : Nat) : Int) < (no : Int) - 1) = false := by simp; omega
      have d3 : ((no - 1 : Nat) : Int) = (no : Int) - 1 := by omega
      gi_wp2
      go_end0
      exact ⟨⟨_, rfl⟩, .inl ⟨pre, by rw [HP.out, l1.out]; rfl, HJs.out⟩⟩
end Go.Proofs.Ytkekibnhmfmhmaa
/- The program's half: offsets and numbers that are right by themselves. -/
namespace Go.Proofs.Ytkekibnhmfmhmaa
open Go Go.RowKit Go.Shelf Go.Lib
attribute [local go_sem] Oper.semAt_some
theorem below_mid {B : Nat} {w W W' : World} (h : Below B w W) (k : Below B w W') (hs : W.heap.size ≤ W'.heap.size) : Below B W W' :=
  ⟨k.os.trans h.os.symm, k.tape.trans h.tape.symm, k.output.trans h.output.symm, hs, fun i hi => (k.block i hi).trans (h.block i hi).symm⟩
theorem kpA_of {w W W' : World} {b1 b2 : Nat} {o1 o2 : Obj} (h : Ext w W) (k : Ext w W') (hs : W.heap.size ≤ W'.heap.size) (h1 : W.heap[b1]? = some o1) (h2 : W.heap[b2]? = some o2) (k1 : W'.heap[b1]? = some o1) (k2 : W'.heap[b2]? = some o2) : KpA w.heap.size b1 b2 W W' :=
  ⟨below_mid h k hs, k1.trans h1.symm, k2.trans h2.symm⟩
theorem kpA_b {w3 : World} {n₀ b1 b2 : Nat} (hn : n₀ ≤ w3.heap.size) (h1 : b1 < w3.heap.size) (h2 : b2 < w3.heap.size) (W : World) (l : Nat) (o o' : Obj) (hl : w3.heap.size ≤ l) (h : W.heap[l]? = some o) (hc : o.isCells = false) (hw : o.isWalk = false) : KpA n₀ b1 b2 W (W.putObj l o') :=
  ⟨belowK_b hn W l o o' hl h hc hw, World.putObj_heap_other (by omega), World.putObj_heap_other (by omega)⟩
set_option maxRecDepth 100000 in
set_option maxHeartbeats 4000000 in
theorem halfG_no (po : Option Addr) (no co : Nat) (O : List Int) (pt : Option Addr) (nt ct : Nat) (T : List Int) (w : World) (hO : Rd w 1 po no (encI O)) (hT : Rd w 1 pt nt (encI T)) (hct : nt ≤ ct) (h : offB O T = false) : Calls Try.prog 43 #[.slice po no co, .slice pt nt ct] w fun e w' => e = .returned (.bool false) ∧ Ext w w' := by
  have _hc := hct
  have p1 := hO.ptr
  have n1 := hO.small
  have n2 := hT.small
  have l1 := Lib.hid hO.nI
  have l2 := Lib.hid hT.nI
  have S0 := Lib.hid (((Sep.start w).al #[.bool false] 4 w.heap.size rfl).al #[.int .i64 ((no:Int) - 1)] 3 (w.heap.size + 1) (by simp))
  have HSo := Lib.hid (fun W1 (h : Ext w W1) (h0 : 0 < no) => IsSortedI po no co O W1 (hO.ext h) h0)
  by_cases h1 : (no:Int) - 1 < 1
  · have d1 : decide ((no:Int) - 1 < 1) = true := by simpa using h1
    clear hO hT h
    go_enter Try.func43, Try.ntmps43
    go_wp2
    refine bodyPost_ret (v := .bool false) (by simp [results, Try.results43, go_sem]) rfl ⟨rfl, ?_⟩
    first | exact S0.out.ext | exact (S0.out.set 1 rfl 0 _).ext
  · have d1 : decide ((no:Int) - 1 < 1) = false := by simpa using h1
    by_cases h2 : 200 < (no:Int) - 1
    · have d2 : decide (200 < (no:Int) - 1) = true := by simpa using h2
      clear hO hT h
      go_enter Try.func43, Try.ntmps43
      go_wp2
      refine bodyPost_ret (v := .bool false) (by simp [results, Try.results43, go_sem]) rfl ⟨rfl, ?_⟩
      first | exact S0.out.ext | exact (S0.out.set 1 rfl 0 _).ext
    · have d2 : decide (200 < (no:Int) - 1) = false := by simpa using h2
      by_cases h3 : 2000 < nt
      · have d3 : decide ((2000:Int) < nt) = true := by simp; omega
        clear hO hT h
        go_enter Try.func43, Try.ntmps43
        go_wp2
        refine bodyPost_ret (v := .bool false) (by simp [results, Try.results43, go_sem]) rfl ⟨rfl, ?_⟩
        first | exact S0.out.ext | exact (S0.out.set 1 rfl 0 _).ext
      · have d3 : decide ((2000:Int) < nt) = false := by simp; omega
        have g0 := S0.out.ext.cell (hO.cI (k := 0) (by omega))
        have q1 : (0:Int) < no := by omega
        by_cases h4 : nth O 0 = 0
        · have d4 : (nth O 0 != 0) = false := by simpa using h4
          have g5 := S0.out.ext.cell (hO.cI (k := no - 1) (by omega))
          have q2 : (0:Int) ≤ (no:Int) - 1 := by omega
          have q3 : (no:Int) - 1 < no := by omega
          by_cases h5 : nth O (no - 1) = nt
          · have d5 : (nth O (no - 1) != (nt:Int)) = false := by simpa using h5
            have h6 : sortB O = false := by
              cases h7 : sortB O with
              | false => rfl
              | true =>
                unfold offB at h
                rw [h7, h4] at h
                rw [← l1.out, ← l2.out, h5] at h
                simp at h; omega
            rw [h6] at HSo
            clear hO hT h h6 h4 h5
            go_enter Try.func43, Try.ntmps43
            go_wp2_with (go_at_call 54; go_must (refine (HSo.out _ S0.out.ext (by omega)).mono ?_; rintro e w2 ⟨rfl, hb⟩; have S2 := Lib.hid (S0.out.call hb); have c4 := (S2.out.blk 1 rfl).cell 0; have f4 := (S2.out.blk 1 rfl).frozen 0; have z4 := (S2.out.blk 1 rfl).lt; clear hb))
            refine bodyPost_ret (v := .bool false) (by simp [results, Try.results43, go_sem, c4]) rfl ⟨rfl, (S2.out.set 1 rfl 0 _).ext⟩
          · have d5 : (nth O (no - 1) != (nt:Int)) = true := by simpa using h5
            clear hO hT h h4 h5
            go_enter Try.func43, Try.ntmps43
            go_wp2
            refine bodyPost_ret (v := .bool false) (by simp [results, Try.results43, go_sem]) rfl ⟨rfl, ?_⟩
            first | exact S0.out.ext | exact (S0.out.set 1 rfl 0 _).ext
        · have d4 : (nth O 0 != 0) = true := by simpa using h4
          clear hO hT h h4
          go_enter Try.func43, Try.ntmps43
          go_wp2
          refine bodyPost_ret (v := .bool false) (by simp [results, Try.results43, go_sem]) rfl ⟨rfl, ?_⟩
          first | exact S0.out.ext | exact (S0.out.set 1 rfl 0 _).ext
end Go.Proofs.Ytkekibnhmfmhmaa
/- The program's half, where the offsets are right: each pair is looked at. -/
namespace Go.Proofs.Ytkekibnhmfmhmaa
open Go Go.RowKit Go.Shelf Go.Lib
attribute [local go_sem] Oper.semAt_some
/-- what the loop keeps: the boxes of the iterator, the last pair, n, the result -/
def halfPc (b4 b : Nat) (po : Option Addr) (no co : Nat) (pt : Option Addr) (nt ct : Nat) (p : Int × Int) (r : Bool) : List Pc :=
  [.blk (b + 1 + 1 + 1) 51 #[.slice pt nt ct], .blk (b + 1 + 1) 51 #[.slice po no co], .blk (b + 1) 3 #[.int .i64 p.2], .blk b 3 #[.int .i64 p.1], .blk (b4 + 1) 3 #[.int .i64 ((no:Int) - 1)], .blk b4 4 #[.bool r]]
theorem halfPc_cells (b4 b : Nat) (po : Option Addr) (no co : Nat) (pt : Option Addr) (nt ct : Nat) (p : Int × Int) (r : Bool) : ∀ q ∈ halfPc b4 b po no co pt nt ct p r, q.cells :=
  cells_all fun q hq => by simp [halfPc] at hq; rcases hq with h | h | h | h | h | h <;> exact .inl ⟨_, _, _, h⟩
set_option maxRecDepth 100000 in
set_option maxHeartbeats 4000000 in
theorem halfG_yes (po : Option Addr) (no co : Nat) (O : List Int) (pt : Option Addr) (nt ct : Nat) (T : List Int) (w : World) (hO : Rd w 1 po no (encI O)) (hT : Rd w 1 pt nt (encI T)) (hct : nt ≤ ct) (h : offB O T = true) : Calls Try.prog 43 #[.slice po no co, .slice pt nt ct] w fun e w' => e = .returned (.bool (halfB O T)) ∧ Ext w w' := by
  have p1 := hO.ptr
  have n1 := hO.small
  have n2 := hT.small
  have l1 := hO.nI
  have l2 := hT.nI
  have hhb := Lib.hid (halfB_pairs h)
  have HOK := Lib.hid (offOk_of h)
  obtain ⟨r1, r2, r3, r4, r5, r6⟩ := offB_parts h
  have S0 := Lib.hid (((Sep.start w).al #[.bool false] 4 w.heap.size rfl).al #[.int .i64 ((no:Int) - 1)] 3 (w.heap.size + 1) (by simp))
  have HSo := Lib.hid (fun W1 (h : Ext w W1) => IsSortedI po no co O W1 (hO.ext h) (by omega))
  rw [r6] at HSo
  have d1 : decide ((no:Int) - 1 < 1) = false := by simp; omega
  have d2 : decide (200 < (no:Int) - 1) = false := by simp; omega
  have d3 : decide ((2000:Int) < nt) = false := by simp; omega
  have g0 := S0.out.ext.cell (hO.cI (k := 0) (by omega))
  have q1 : (0:Int) < no := by omega
  have d4 : (nth O 0 != 0) = false := by simpa using r4
  have g5 := S0.out.ext.cell (hO.cI (k := no - 1) (by omega))
  have q2 : (0:Int) ≤ (no:Int) - 1 := by omega
  have q3 : (no:Int) - 1 < no := by omega
  have d5 : (nth O (no - 1) != (nt:Int)) = false := by rw [← l1, ← l2] at r5; simpa using r5
  have L1 : Hid (((O.length - 1 : Nat) : Int) = (no:Int) - 1) := by unfold Hid; omega
  rw [L1.out] at hhb
  have hO0 : 0 < no → (adr po 0).block < w.heap.size := fun h => hO.lt (by omega)
  have hT0 : 0 < nt → (adr pt 0).block < w.heap.size := fun h => hT.lt (by omega)
  have HO := Lib.hid hO; clear hO
  have HT := Lib.hid hT; clear hT
  clear r1 r2 r3 r4 r5 r6 h l1 l2
  refine (callsIn_wide (n := 9)).1 ?_
  refine callsIn_of_wp_marks Try.func43 rfl trivial ?_ rfl
  simp only [Try.ntmps43, List.size_toArray, List.length_cons, List.length_nil, Nat.reduceAdd, Nat.reduceSub, Array.replicate_succ, Array.replicate_zero, List.push_toArray, List.append_toArray, List.nil_append, List.cons_append]
  refine wpIn_wide.2 ?_
  go_wp2_with (first
    | (go_at_call 44; go_must (refine (allG po no co pt nt ct _).mono ?_; rintro e w3 ⟨rfl, hw3⟩; have S3 := (((S2.out.al #[.int .i64 (-1)] 3 w2.heap.size rfl).al #[.int .i64 0] 3 (w2.heap.size + 1) (by simp)).al #[.slice po no co] 51 (w2.heap.size + 1 + 1) (by simp)).al #[.slice pt nt ct] 51 (w2.heap.size + 1 + 1 + 1) (by simp); rw [← hw3] at S3; have S4 := Lib.hid (S3 : Sep w w3 (halfPc w.heap.size w2.heap.size po no co pt nt ct (-1, 0) false)); clear S3 hw3))
    | (go_at_call 54; go_must (refine (HSo.out _ S0.out.ext).mono ?_; rintro e w2 ⟨rfl, hb⟩; have S2 := Lib.hid (S0.out.call hb); have c4 := (S2.out.blk 1 rfl).cell 0; have c5 := (S2.out.blk 0 rfl).cell 0; have z4 := (S2.out.blk 1 rfl).lt; have z5 := (S2.out.blk 0 rfl).lt; clear hb)))
  clear S0 S2 HSo g0 g5 c4 c5
  generalize w2.heap.size = b at *
  refine wpIn_wide.1 (wpIn_rangeFunc_ownG (F := Fence.wide) (n := 9) rfl (by omega) (gf := 55) (lb := #[.pointer (some ⟨b + 1 + 1, 0, none⟩), .pointer (some ⟨b + 1 + 1 + 1, 0, none⟩)]) rfl trivial (enters_of Try.func55 (by kernel_rfl) rfl)
    (all_stops 8 (by omega) (b + 1 + 1) (b + 1 + 1 + 1) w.heap.size po no co pt nt ct O T w3 S4.out.ext.size (S4.out.blk 1 rfl) (S4.out.blk 0 rfl) (HO.out.ext S4.out.ext) (HT.out.ext S4.out.ext) hO0 hT0 HOK.out hct)
    (fun h k => KpA.trans h k) (kpA_b S4.out.ext.size (S4.out.blk 1 rfl).lt (S4.out.blk 0 rfl).lt) (Below.refl _ _) (fun _ => rfl)
    (fun pre W => okFrom ((no:Int) - 1) (-1, 0) (pre.map (·.1)) = true ∧ Sep w W (halfPc w.heap.size b po no co pt nt ct (lastP (-1, 0) (pre.map (·.1))) false))
    (fun c pre W => (c = .ret ∧ okFrom ((no:Int) - 1) (-1, 0) (pre.map (·.1)) = false) ∧ ∃ p, Sep w W (halfPc w.heap.size b po no co pt nt ct p false))
    ?hI ?hIx ⟨rfl, S4.out⟩ ?a1 ?assign ?body ?done ?stop)
  case hI => exact fun s A B row hs hg hr => ⟨hs.1, hs.2.turn (halfPc_cells _ _ _ _ _ _ _ _ _ _) S4.out.ext.size hg hr⟩
  case hIx => exact fun c s A B row hs hg hr => ⟨hs.1, hs.2.elim fun p S => ⟨p, S.turn (halfPc_cells _ _ _ _ _ _ _ _ _ _) S4.out.ext.size hg hr⟩⟩
  case assign =>
    intro l x W K hK
    gi_wp2
    exact hK
  case body =>
    rintro l pre ⟨⟨v, u⟩, hx⟩ W ⟨ho, S⟩ _
    have hsn := okFrom_snoc ((no:Int) - 1) (-1, 0) (pre.map (·.1)) (v, u)
    rw [ho, Bool.true_and] at hsn
    have hls := lastP_snoc (-1, 0) (pre.map (·.1)) (v, u)
    have hm : (pre ++ [(⟨(v, u), hx⟩ : PairOf O T)]).map (·.1) = pre.map (·.1) ++ [(v, u)] := by simp
    rw [← hm] at hsn hls
    obtain ⟨p, hp⟩ : ∃ p, p = lastP (-1, 0) (pre.map (·.1)) := ⟨_, rfl⟩
    rw [← hp] at S hsn
    have HSN := Lib.hid hsn
    have HLS := Lib.hid hls
    have c7 := (S.blk 2 rfl).cell 0
    have c6 := (S.blk 3 rfl).cell 0
    have c5 := (S.blk 4 rfl).cell 0
    have c4 := (S.blk 5 rfl).cell 0
    have f7 := (S.blk 2 rfl).frozen 0
    have f6 := (S.blk 3 rfl).frozen 0
    have f4 := (S.blk 5 rfl).frozen 0
    have z7 := (S.blk 2 rfl).lt
    have z6 := (S.blk 3 rfl).lt
    have z5 := (S.blk 4 rfl).lt
    have z4 := (S.blk 5 rfl).lt
    have y1 : b ≠ b + 1 := by omega
    have HW := Lib.hid (withinG ((no:Int) - 1 - 1) (some ⟨W.heap.size, 0, none⟩) 1 1 [u] _ (Rd.oneI W 3 u))
    have hwd : withB ((no:Int) - 1 - 1) [u] = (decide (0 ≤ u) && decide (u ≤ (no:Int) - 1 - 1)) := by simp [withB]
    have SH := Lib.hid S; clear S
    clear hsn hls hm ho hp S4 HO HT HOK hO0 hT0 hhb
    by_cases hu : 0 ≤ u ∧ u ≤ (no:Int) - 1 - 1
    · rw [hwd, decide_eq_true hu.1, decide_eq_true hu.2] at HW
      have hu2 : decide (u < (no:Int) - 1) = true := by simp; omega
      by_cases hv : v = p.1
      · have e1 : (v == p.1) = true := by simpa using hv
        by_cases hw : u ≤ p.2
        · have e2 : decide (u ≤ p.2) = true := by simpa using hw
          have HF : Hid (okFrom ((no:Int) - 1) (-1, 0) ((pre ++ [(⟨(v, u), hx⟩ : PairOf O T)]).map (·.1)) = false) := by
            unfold Hid; rw [HSN.out]; unfold okStep; simp [hv, hw]
          clear hv hw hwd
          gi_wp2_with (refine ⟨trivial, ?_⟩; gi_at_call 52; refine (CallsIn.inRound l (callsIn_wide.2 HW.out)).mono ?_; rintro e w' ⟨rfl, rfl⟩)
          exact ⟨((KeepsOthers.setCell W _ _).trans (KeepsOthers.alloc _ _)).from _, ⟨rfl, HF.out⟩, p, (SH.out.set 5 rfl 0 (.bool false)).junk _⟩
        · have e2 : decide (u ≤ p.2) = false := by simpa using hw
          have HF : Hid (okFrom ((no:Int) - 1) (-1, 0) ((pre ++ [(⟨(v, u), hx⟩ : PairOf O T)]).map (·.1)) = true) := by
            unfold Hid; rw [HSN.out]; unfold okStep; simp [hu.1, hw]; omega
          clear hv hw hwd
          gi_wp2_with (refine ⟨trivial, ?_⟩; gi_at_call 52; refine (CallsIn.inRound l (callsIn_wide.2 HW.out)).mono ?_; rintro e w' ⟨rfl, rfl⟩)
          have S' := ((SH.out.set 3 rfl 0 (.int .i64 v)).set 2 rfl 0 (.int .i64 u)).junk (.cells #[.int .i64 u] 3)
          exact ⟨(((KeepsOthers.setCell W _ _).trans (KeepsOthers.setCell _ _ _)).trans (KeepsOthers.alloc _ _)).from _, kpA_of SH.out.ext S'.ext (by simp) (SH.out.blk 1 rfl) (SH.out.blk 0 rfl) (S'.blk 1 rfl) (S'.blk 0 rfl), HF.out, by rw [HLS.out]; exact S'⟩
      · have e1 : (v == p.1) = false := by simpa using hv
        have HF : Hid (okFrom ((no:Int) - 1) (-1, 0) ((pre ++ [(⟨(v, u), hx⟩ : PairOf O T)]).map (·.1)) = true) := by
          unfold Hid; rw [HSN.out]; unfold okStep; simp [hu.1, hv]; omega
        clear hv hwd
        gi_wp2_with (refine ⟨trivial, ?_⟩; gi_at_call 52; refine (CallsIn.inRound l (callsIn_wide.2 HW.out)).mono ?_; rintro e w' ⟨rfl, rfl⟩)
        have S' := ((SH.out.set 3 rfl 0 (.int .i64 v)).set 2 rfl 0 (.int .i64 u)).junk (.cells #[.int .i64 u] 3)
        exact ⟨(((KeepsOthers.setCell W _ _).trans (KeepsOthers.setCell _ _ _)).trans (KeepsOthers.alloc _ _)).from _, kpA_of SH.out.ext S'.ext (by simp) (SH.out.blk 1 rfl) (SH.out.blk 0 rfl) (S'.blk 1 rfl) (S'.blk 0 rfl), HF.out, by rw [HLS.out]; exact S'⟩
    · have hwf : withB ((no:Int) - 1 - 1) [u] = false := by
        rw [hwd]
        by_cases h1 : 0 ≤ u
        · simp [h1]; omega
        · simp [h1]
      rw [hwf] at HW
      have HF : Hid (okFrom ((no:Int) - 1) (-1, 0) ((pre ++ [(⟨(v, u), hx⟩ : PairOf O T)]).map (·.1)) = false) := by
        unfold Hid; rw [HSN.out]; unfold okStep
        have : (decide (0 ≤ u) && decide (u < (no:Int) - 1)) = false := by
          by_cases h1 : 0 ≤ u
          · simp [h1]; omega
          · simp [h1]
        simp only [this, Bool.false_and]
      clear hwd hwf
      gi_wp2_with (refine ⟨trivial, ?_⟩; gi_at_call 52; refine (CallsIn.inRound l (callsIn_wide.2 HW.out)).mono ?_; rintro e w' ⟨rfl, rfl⟩)
      exact ⟨((KeepsOthers.setCell W _ _).trans (KeepsOthers.alloc _ _)).from _, ⟨rfl, HF.out⟩, p, (SH.out.set 5 rfl 0 (.bool false)).junk _⟩
  case done =>
    rintro D ys W hD hys ⟨ho, S⟩ hK
    have HF : Hid (halfB O T = true) := by unfold Hid; rw [hhb.out, ← hys]; exact ho
    have c4 := (S.blk 5 rfl).cell 0
    have f4 := (S.blk 5 rfl).frozen 0
    have z4 := (S.blk 5 rfl).lt
    have hKs := (KeepsOthers.setCell W ⟨w.heap.size, 0, none⟩ (.bool true)).same D _ hK rfl
    have S' := (S.set 5 rfl 0 (.bool true)).putObj (halfPc_cells w.heap.size b po no co pt nt ct _ true) (.deferred none) (Nat.le_trans S4.out.ext.size hD) hKs rfl
    have k4 := (S'.blk 5 rfl).cell 0
    have SH := Lib.hid S; clear S
    have SH' := Lib.hid S'; clear S'
    go_wp2
    refine ⟨by simp, .inl ⟨_, _, rfl, run_takeDeferred hKs, ?_⟩⟩
    exact ⟨.bool true, by simp [results, Try.results43, go_sem, k4], ret_bool HF.out.symm, SH'.out.ext⟩
  case stop =>
    rintro D c pre W hD hSp ⟨⟨rfl, hno⟩, p, S⟩ hK
    have HF : Hid (halfB O T = false) := by unfold Hid; rw [hhb.out]; exact okFrom_no hno hSp
    have S' := S.putObj (halfPc_cells w.heap.size b po no co pt nt ct _ false) (.deferred none) (Nat.le_trans S4.out.ext.size hD) hK rfl
    have k4 := (S'.blk 5 rfl).cell 0
    have SH := Lib.hid S; clear S
    have SH' := Lib.hid S'; clear S'
    refine wpIn_wide.2 ?_
    go_wp2
    refine ⟨by simp, .inl ⟨_, _, rfl, run_takeDeferred hK, ?_⟩⟩
    exact ⟨.bool false, by simp [results, Try.results43, go_sem, k4], ret_bool HF.out.symm, SH'.out.ext⟩
theorem halfG (po : Option Addr) (no co : Nat) (O : List Int) (pt : Option Addr) (nt ct : Nat) (T : List Int) (w : World) (hO : Rd w 1 po no (encI O)) (hT : Rd w 1 pt nt (encI T)) (hct : nt ≤ ct) : Calls Try.prog 43 #[.slice po no co, .slice pt nt ct] w fun e w' => e = .returned (.bool (halfB O T)) ∧ Ext w w' := by
  cases h : offB O T with
  | false =>
    have : halfB O T = false := by unfold halfB; rw [h]; rfl
    rw [this]
    exact halfG_no po no co O pt nt ct T w hO hT hct h
  | true => exact halfG_yes po no co O pt nt ct T w hO hT hct h
end Go.Proofs.Ytkekibnhmfmhmaa
/- The program's Check of rows. -/
namespace Go.Proofs.Ytkekibnhmfmhmaa
open Go Go.RowKit Go.Shelf Go.Lib
attribute [local go_sem] Oper.semAt_some
theorem BinI (p : Option Addr) (n c : Nat) (l : List Int) (x : Int) (w : World) (hl : Rd w 1 p n (encI l)) (hs : Rises ltI l) (hn : n ≤ 1000000) :
    Calls Try.prog 45 #[.slice p n c, .int .i64 x] w fun e w' => e = .returned (.tuple #[.int .i64 (l.countP (· < x) : Nat), .bool (inB l x)]) ∧ Ext w w' := by
  have ln := hl.nI
  have hin : inB l x = l.contains x := by rw [Bool.eq_iff_iff, inB_iff]; simp
  rw [hin]
  rcases hl.ptr with h0 | ⟨b, o, rfl⟩
  · subst h0
    have : l = [] := List.eq_nil_of_length_eq_zero ln.symm
    subst this
    exact (Any.slices_BinarySearch_int_empty Try.binI p c x w).mono fun e w' h => ⟨by have := h.1; simpa using this, by rw [h.2]; exact Below.refl _ _⟩
  · have ht : l.take n = l := List.take_of_length_le (by omega)
    have := Any.slices_BinarySearch_int Try.binI b o n c l x w (by omega) (by omega) (fun j hj => by
      have h1 := hl.cI (k := j) (by omega)
      rw [adr_some] at h1
      rw [h1, nth_eq hj, List.getD_eq_getElem?_getD, List.getElem?_eq_getElem hj]; rfl) (by rw [ht]; exact hs.imp (fun {a b} h => by simp [ltI] at h; omega))
    rw [ht] at this
    exact this.mono fun e w' h => ⟨h.1, by obtain ⟨q, hq⟩ := h.2; rw [hq]; exact Ext.drewN (Below.refl _ _) q⟩
theorem ContI (p : Option Addr) (n c : Nat) (l : List Int) (x : Int) (w : World) (hl : Rd w 1 p n (encI l)) :
    Calls Try.prog 36 #[.slice p n c, .int .i64 x] w fun e w' => e = .returned (.bool (inB l x)) ∧ Ext w w' := by
  have ln := hl.nI
  have hin : inB l x = l.contains x := by rw [Bool.eq_iff_iff, inB_iff]; simp
  rw [hin]
  rcases hl.ptr with h0 | ⟨b, o, rfl⟩
  · subst h0
    have : l = [] := List.eq_nil_of_length_eq_zero ln.symm
    subst this
    exact (Any.slices_Contains_int_empty Try.hasI p c x w).mono fun e w' h => ⟨by have := h.1; simpa using this, by rw [h.2]; exact Below.refl _ _⟩
  · have ht : l.take n = l := List.take_of_length_le (by omega)
    have := Any.slices_Contains_int Try.hasI b o n c l x w (by omega) hl.small (fun j hj => by
      have h1 := hl.cI (k := j) (by omega)
      rw [adr_some] at h1
      rw [h1, nth_eq hj, List.getD_eq_getElem?_getD, List.getElem?_eq_getElem hj]; rfl)
    rw [ht] at this
    exact this.mono fun e w' h => ⟨h.1, by rw [h.2]; exact Below.refl _ _⟩
theorem checkR_no {O T R V : List Int} (h : O.length ≠ R.length ∨ T.length ≠ V.length ∨ halfB O T = false ∨ halfB R V = false) : checkR O T R V = false := by
  unfold checkR
  rcases h with h | h | h | h <;> simp [h]
set_option maxRecDepth 100000 in
set_option maxHeartbeats 4000000 in
theorem CheckR_no (po : Option Addr) (no co : Nat) (O : List Int) (pt : Option Addr) (nt ct : Nat) (T : List Int) (pr : Option Addr) (nr cr : Nat) (R : List Int) (pv : Option Addr) (nv cv : Nat) (V : List Int) (w : World) (hO : Rd w 1 po no (encI O)) (hT : Rd w 1 pt nt (encI T)) (hR : Rd w 1 pr nr (encI R)) (hV : Rd w 1 pv nv (encI V)) (hct : nt ≤ ct) (hcv : nv ≤ cv) (h : no ≠ nr ∨ nt ≠ nv ∨ halfB O T = false ∨ halfB R V = false) :
    Calls Try.prog 35 #[.agg #[.slice po no co, .slice pt nt ct, .slice pr nr cr, .slice pv nv cv]] w fun e w' => e = .returned (.bool false) ∧ Ext w w' := by
  have n1 := hO.small
  have n2 := hT.small
  have n3 := hR.small
  have n4 := hV.small
  have S0 := Lib.hid (((Sep.start w).al #[.slice po no co, .slice pt nt ct, .slice pr nr cr, .slice pv nv cv] 53 w.heap.size rfl).al #[.bool false] 4 (w.heap.size + 1) (by simp))
  have HH1 := Lib.hid (fun W1 (h : Ext w W1) => halfG po no co O pt nt ct T W1 (hO.ext h) (hT.ext h) hct)
  have HH2 := Lib.hid (fun W1 (h : Ext w W1) => halfG pr nr cr R pv nv cv V W1 (hR.ext h) (hV.ext h) hcv)
  clear hO hT hR hV
  by_cases h1 : no = nr
  · have d1 : ((no:Int) != (nr:Int)) = false := by simp; omega
    by_cases h2 : nt = nv
    · have d2 : ((nt:Int) != (nv:Int)) = false := by simp; omega
      cases h3 : halfB O T with
      | false =>
        rw [h3] at HH1
        clear h h1 h2 h3
        go_enter Try.func35, Try.ntmps35
        go_wp2_with (go_at_call 43; go_must (refine (HH1.out _ S0.out.ext).mono ?_; rintro e w1 ⟨rfl, hb⟩; have S1 := Lib.hid (S0.out.call hb); have a0 := (S1.out.blk 1 rfl).cell 0; have a1 := (S1.out.blk 1 rfl).cell 1; have a2 := (S1.out.blk 1 rfl).cell 2; have a3 := (S1.out.blk 1 rfl).cell 3; have za := (S1.out.blk 1 rfl).lt; have b0 := (S1.out.blk 0 rfl).cell 0; have f0 := (S1.out.blk 0 rfl).frozen 0; have zb := (S1.out.blk 0 rfl).lt; clear hb))
        refine bodyPost_ret (v := .bool false) (by simp [results, Try.results35, go_sem, b0]) rfl ⟨rfl, (S1.out.set 0 rfl 0 _).ext⟩
      | true =>
        have h4 : halfB R V = false := by
          rcases h with h | h | h | h
          · exact absurd h1 h
          · exact absurd h2 h
          · rw [h3] at h; cases h
          · exact h
        rw [h3] at HH1
        rw [h4] at HH2
        clear h h1 h2 h3 h4
        go_enter Try.func35, Try.ntmps35
        go_wp2_with (first | (go_at_call 43; have _t := S1; go_must (refine (HH2.out _ S1.out.ext).mono ?_; rintro e w2 ⟨rfl, hb⟩; have S2 := Lib.hid (S1.out.call hb); have A0 := (S2.out.blk 1 rfl).cell 0; have A1 := (S2.out.blk 1 rfl).cell 1; have A2 := (S2.out.blk 1 rfl).cell 2; have A3 := (S2.out.blk 1 rfl).cell 3; have zA := (S2.out.blk 1 rfl).lt; have B0 := (S2.out.blk 0 rfl).cell 0; have F0 := (S2.out.blk 0 rfl).frozen 0; have zB := (S2.out.blk 0 rfl).lt; clear hb)) | (go_at_call 43; go_must (refine (HH1.out _ S0.out.ext).mono ?_; rintro e w1 ⟨rfl, hb⟩; have S1 := Lib.hid (S0.out.call hb); have a0 := (S1.out.blk 1 rfl).cell 0; have a1 := (S1.out.blk 1 rfl).cell 1; have a2 := (S1.out.blk 1 rfl).cell 2; have a3 := (S1.out.blk 1 rfl).cell 3; have za := (S1.out.blk 1 rfl).lt; have b0 := (S1.out.blk 0 rfl).cell 0; have f0 := (S1.out.blk 0 rfl).frozen 0; have zb := (S1.out.blk 0 rfl).lt; clear hb)))
        refine bodyPost_ret (v := .bool false) (by simp [results, Try.results35, go_sem, B0]) rfl ⟨rfl, (S2.out.set 0 rfl 0 _).ext⟩
    · have d2 : ((nt:Int) != (nv:Int)) = true := by simp; omega
      clear h h1 h2
      go_enter Try.func35, Try.ntmps35
      go_wp2
      refine bodyPost_ret (v := .bool false) (by simp [results, Try.results35, go_sem]) rfl ⟨rfl, ?_⟩
      first | exact S0.out.ext | exact (S0.out.set 0 rfl 0 _).ext
  · have d1 : ((no:Int) != (nr:Int)) = true := by simp; omega
    clear h h1
    go_enter Try.func35, Try.ntmps35
    go_wp2
    refine bodyPost_ret (v := .bool false) (by simp [results, Try.results35, go_sem]) rfl ⟨rfl, ?_⟩
    first | exact S0.out.ext | exact (S0.out.set 0 rfl 0 _).ext
end Go.Proofs.Ytkekibnhmfmhmaa
/- The program's Check of rows, where both halves are right: each pair is looked for, turned. -/
namespace Go.Proofs.Ytkekibnhmfmhmaa
open Go Go.RowKit Go.Shelf Go.Lib
attribute [local go_sem] Oper.semAt_some
def chkPc (a b : Nat) (po : Option Addr) (no co : Nat) (pt : Option Addr) (nt ct : Nat) (pr : Option Addr) (nr cr : Nat) (pv : Option Addr) (nv cv : Nat) (r : Bool) : List Pc :=
  [.blk (b + 1) 51 #[.slice pt nt ct], .blk b 51 #[.slice po no co], .blk (a + 1) 4 #[.bool r], .blk a 53 #[.slice po no co, .slice pt nt ct, .slice pr nr cr, .slice pv nv cv]]
theorem chkPc_cells (a b : Nat) (po : Option Addr) (no co : Nat) (pt : Option Addr) (nt ct : Nat) (pr : Option Addr) (nr cr : Nat) (pv : Option Addr) (nv cv : Nat) (r : Bool) : ∀ q ∈ chkPc a b po no co pt nt ct pr nr cr pv nv cv r, q.cells :=
  cells_all fun q hq => by simp [chkPc] at hq; rcases hq with h | h | h | h <;> exact .inl ⟨_, _, _, h⟩
/-- the pair stands in the other rows, turned -/
def backB (R V : List Int) (x : Int × Int) : Bool := inB (rowL R V x.2.toNat) x.1
theorem pair_bd {O T : List Int} (h : halfB O T = true) {x : Int × Int} (hx : x ∈ pairs O T) : 0 ≤ x.1 ∧ x.1 < ((O.length - 1 : Nat) : Int) ∧ 0 ≤ x.2 ∧ x.2 < ((O.length - 1 : Nat) : Int) := by
  obtain ⟨v, h1, h2, h3⟩ := mem_pairs.1 hx
  unfold halfB at h
  rw [Bool.and_eq_true] at h
  have := List.all_eq_true.1 h.2 v (List.mem_range.2 h1)
  have := (okRow_iff.1 this).1 _ h3
  omega
theorem row_rises {O T : List Int} (h : halfB O T = true) {v : Nat} (hv : v < O.length - 1) : Rises ltI (rowL O T v) := by
  unfold halfB at h
  rw [Bool.and_eq_true] at h
  exact (okRow_iff.1 (List.all_eq_true.1 h.2 v (List.mem_range.2 hv))).2
theorem halfB_off {O T : List Int} (h : halfB O T = true) : offB O T = true := by
  unfold halfB at h
  rw [Bool.and_eq_true] at h
  exact h.1
set_option maxRecDepth 100000 in
set_option maxHeartbeats 4000000 in
theorem CheckR_yes (po : Option Addr) (no co : Nat) (O : List Int) (pt : Option Addr) (nt ct : Nat) (T : List Int) (pr : Option Addr) (nr cr : Nat) (R : List Int) (pv : Option Addr) (nv cv : Nat) (V : List Int) (w : World) (hO : Rd w 1 po no (encI O)) (hT : Rd w 1 pt nt (encI T)) (hR : Rd w 1 pr nr (encI R)) (hV : Rd w 1 pv nv (encI V)) (hct : nt ≤ ct) (hcv : nv ≤ cv) (e1 : no = nr) (e2 : nt = nv) (h1 : halfB O T = true) (h2 : halfB R V = true) :
    Calls Try.prog 35 #[.agg #[.slice po no co, .slice pt nt ct, .slice pr nr cr, .slice pv nv cv]] w fun e w' => e = .returned (.bool ((pairs O T).all (backB R V))) ∧ Ext w w' := by
  have n1 := hO.small
  have n2 := hT.small
  have n3 := hR.small
  have n4 := hV.small
  have l1 := hO.nI
  have l2 := hT.nI
  have l3 := hR.nI
  have l4 := hV.nI
  have pR := hR.ptr
  have S0 := Lib.hid (((Sep.start w).al #[.slice po no co, .slice pt nt ct, .slice pr nr cr, .slice pv nv cv] 53 w.heap.size rfl).al #[.bool false] 4 (w.heap.size + 1) (by simp))
  have HH1 := Lib.hid (fun W1 (h : Ext w W1) => halfG po no co O pt nt ct T W1 (hO.ext h) (hT.ext h) hct)
  have HH2 := Lib.hid (fun W1 (h : Ext w W1) => halfG pr nr cr R pv nv cv V W1 (hR.ext h) (hV.ext h) hcv)
  rw [h1] at HH1
  rw [h2] at HH2
  have d1 : ((no:Int) != (nr:Int)) = false := by simp; omega
  have d2 : ((nt:Int) != (nv:Int)) = false := by simp; omega
  have HOK := Lib.hid (offOk_of (halfB_off h1))
  have HOK2 := Lib.hid (offOk_of (halfB_off h2))
  have HPB := Lib.hid (fun x (hx : x ∈ pairs O T) => pair_bd h1 hx)
  have HRR := Lib.hid (fun v (hv : v < R.length - 1) => row_rises h2 hv)
  have r3 := (offB_parts (halfB_off h2)).2.2.1
  have hO0 : 0 < no → (adr po 0).block < w.heap.size := fun h => hO.lt (by omega)
  have hT0 : 0 < nt → (adr pt 0).block < w.heap.size := fun h => hT.lt (by omega)
  have L1 := Lib.hid l1
  have L3 := Lib.hid l3
  have L4 := Lib.hid l4
  have E1 := Lib.hid e1
  have E2 := Lib.hid e2
  have HO := Lib.hid hO; clear hO
  have HT := Lib.hid hT; clear hT
  have HR := Lib.hid hR; clear hR
  have HV := Lib.hid hV; clear hV
  clear h1 h2 l1 l2 l3 l4 e1 e2
  refine (callsIn_wide (n := 9)).1 ?_
  refine callsIn_of_wp_marks Try.func35 rfl trivial ?_ rfl
  simp only [Try.ntmps35, List.size_toArray, List.length_cons, List.length_nil, Nat.reduceAdd, Nat.reduceSub, Array.replicate_succ, Array.replicate_zero, List.push_toArray, List.append_toArray, List.nil_append, List.cons_append]
  refine wpIn_wide.2 ?_
  go_wp2_with (first
    | (go_at_call 44; go_must (refine (allG po no co pt nt ct _).mono ?_; rintro e w3 ⟨rfl, hw3⟩; have S3 := (S2.out.al #[.slice po no co] 51 w2.heap.size rfl).al #[.slice pt nt ct] 51 (w2.heap.size + 1) (by simp); rw [← hw3] at S3; have S4 := Lib.hid (S3 : Sep w w3 (chkPc w.heap.size w2.heap.size po no co pt nt ct pr nr cr pv nv cv false)); clear S3 hw3))
    | (go_at_call 43; have _t := S1; go_must (refine (HH2.out _ S1.out.ext).mono ?_; rintro e w2 ⟨rfl, hb⟩; have S2 := Lib.hid (S1.out.call hb); have A0 := (S2.out.blk 1 rfl).cell 0; have A1 := (S2.out.blk 1 rfl).cell 1; have zA := (S2.out.blk 1 rfl).lt; clear hb))
    | (go_at_call 43; go_must (refine (HH1.out _ S0.out.ext).mono ?_; rintro e w1 ⟨rfl, hb⟩; have S1 := Lib.hid (S0.out.call hb); have a2 := (S1.out.blk 1 rfl).cell 2; have a3 := (S1.out.blk 1 rfl).cell 3; have za := (S1.out.blk 1 rfl).lt; clear hb)))
  clear S0 S1 S2 HH1 HH2 A0 A1 a2 a3
  generalize w2.heap.size = b at *
  refine wpIn_wide.1 (wpIn_rangeFunc_ownG (F := Fence.wide) (n := 9) rfl (by omega) (gf := 55) (lb := #[.pointer (some ⟨b, 0, none⟩), .pointer (some ⟨b + 1, 0, none⟩)]) rfl trivial (enters_of Try.func55 (by kernel_rfl) rfl)
    (all_stops 8 (by omega) b (b + 1) w.heap.size po no co pt nt ct O T w3 S4.out.ext.size (S4.out.blk 1 rfl) (S4.out.blk 0 rfl) (HO.out.ext S4.out.ext) (HT.out.ext S4.out.ext) hO0 hT0 HOK.out hct)
    (fun h k => KpA.trans h k) (kpA_b S4.out.ext.size (S4.out.blk 1 rfl).lt (S4.out.blk 0 rfl).lt) (Below.refl _ _) (fun _ => rfl)
    (fun pre W => (pre.map (·.1)).all (backB R V) = true ∧ Sep w W (chkPc w.heap.size b po no co pt nt ct pr nr cr pv nv cv false))
    (fun c pre W => (c = .ret ∧ (pre.map (·.1)).all (backB R V) = false) ∧ Sep w W (chkPc w.heap.size b po no co pt nt ct pr nr cr pv nv cv false))
    ?hI ?hIx ⟨rfl, S4.out⟩ ?a1 ?assign ?body ?done ?stop)
  case hI => exact fun s A B row hs hg hr => ⟨hs.1, hs.2.turn (chkPc_cells _ _ _ _ _ _ _ _ _ _ _ _ _ _ _) S4.out.ext.size hg hr⟩
  case hIx => exact fun c s A B row hs hg hr => ⟨hs.1, hs.2.turn (chkPc_cells _ _ _ _ _ _ _ _ _ _ _ _ _ _ _) S4.out.ext.size hg hr⟩
  case assign =>
    intro l x W K hK
    gi_wp2
    exact hK
  case body =>
    rintro l pre ⟨⟨v, u⟩, hx⟩ W ⟨ho, S⟩ _
    have hm : (pre ++ [(⟨(v, u), hx⟩ : PairOf O T)]).map (·.1) = pre.map (·.1) ++ [(v, u)] := by simp
    have hsn : ((pre ++ [(⟨(v, u), hx⟩ : PairOf O T)]).map (·.1)).all (backB R V) = backB R V (v, u) := by rw [hm, List.all_append, ho]; simp
    have HSN := Lib.hid hsn
    obtain ⟨x1, x2, x3, x4⟩ := HPB.out _ hx
    simp only at x1 x2 x3 x4
    obtain ⟨k, rfl⟩ : ∃ k : Nat, u = (k : Int) := ⟨u.toNat, by omega⟩
    have hk1 : k + 1 < R.length := by have := L1.out; have := L3.out; have := E1.out; omega
    have hk2 : k + 1 < nr := by rw [L3.out]; exact hk1
    have q1 := HOK2.out.lo k (by omega)
    have q2 := HOK2.out.le k hk1
    have q3 := HOK2.out.hi (k + 1) hk1
    have RR := HR.out.ext S.ext
    have g1 := RR.cI (k := k) (by omega)
    have g2 := RR.cI (k := k + 1) (by omega)
    have RL := (HV.out.ext S.ext).rowOf HOK2.out hcv hk1
    have hrs := HRR.out k (by omega)
    have hbk : backB R V (v, (k:Int)) = inB (rowL R V k) v := by unfold backB; simp
    obtain ⟨a, ha⟩ : ∃ a : Nat, nth R k = (a : Int) := ⟨(nth R k).toNat, by omega⟩
    obtain ⟨c, hc⟩ : ∃ c : Nat, nth R (k + 1) = (c : Int) := ⟨(nth R (k + 1)).toNat, by omega⟩
    rw [ha] at g1 q1 q2 RL
    rw [hc] at g2 q2 q3 RL
    have hq3 : (c:Int) ≤ cv := by have := L4.out; omega
    simp only [Int.toNat_natCast] at RL
    have HB := Lib.hid (fun x : ExtOf W => BinI (cutp pv cv a 1) (c - a) (cv - a) (rowL R V k) v x.val (RL.ext x.ext) hrs (by have := L4.out; omega))
    have c0 := (S.blk 3 rfl).cell 2
    have c1 := (S.blk 3 rfl).cell 3
    have c4 := (S.blk 2 rfl).cell 0
    have f4 := (S.blk 2 rfl).frozen 0
    have z4 := (S.blk 2 rfl).lt
    have d3 : (0:Int) ≤ k := by omega
    have d4 : (k:Int) < nr := by omega
    have d5 : (0:Int) ≤ (k:Int) + 1 := by omega
    have d6 : (k:Int) + 1 < nr := by omega
    rw [hbk] at HSN
    have SH := Lib.hid S; clear S
    clear hsn hm ho S4 HO HT HR HV HOK HOK2 hO0 hT0 HPB HRR RR RL ha hc hrs hbk x1 x2 x3 x4 q3
    cases hin : inB (rowL R V k) v with
    | true =>
      rw [hin] at HB HSN
      clear hin
      gi_wp2
      have y0 := fun x : ExtOf W => x.ext.cell c0
      have y1 := fun x : ExtOf W => x.ext.cell c1
      have y2 := fun x : ExtOf W => x.ext.cell g1
      have y3 := fun x : ExtOf W => x.ext.cell g2
      refine wpIn_region_ext (by kernel_rfl) (by kernel_rfl) (by kernel_rfl) ?_
      repeat (go_big_quiet_step ((go_at_call 45; exact Calls.ext_of (HB.out _))))
      refine wpQuiet_nil ?_
      rintro w5 ⟨⟨_, hb5⟩, rfl⟩
      have S5 := Lib.hid (SH.out.call hb5)
      clear y0 y1 y2 y3
      gi_wp2
      exact ⟨(keeps_ext hb5).from _, kpA_of SH.out.ext S5.out.ext hb5.size (SH.out.blk 1 rfl) (SH.out.blk 0 rfl) (S5.out.blk 1 rfl) (S5.out.blk 0 rfl), HSN.out, S5.out⟩
    | false =>
      rw [hin] at HB HSN
      clear hin
      gi_wp2
      have y0 := fun x : ExtOf W => x.ext.cell c0
      have y1 := fun x : ExtOf W => x.ext.cell c1
      have y2 := fun x : ExtOf W => x.ext.cell g1
      have y3 := fun x : ExtOf W => x.ext.cell g2
      refine wpIn_region_ext (by kernel_rfl) (by kernel_rfl) (by kernel_rfl) ?_
      repeat (go_big_quiet_step ((go_at_call 45; exact Calls.ext_of (HB.out _))))
      refine wpQuiet_nil ?_
      rintro w5 ⟨⟨_, hb5⟩, rfl⟩
      have S5 := Lib.hid (SH.out.call hb5)
      have k4 := (S5.out.blk 2 rfl).cell 0
      have kf := (S5.out.blk 2 rfl).frozen 0
      have kz := (S5.out.blk 2 rfl).lt
      clear y0 y1 y2 y3 c4 f4 z4
      gi_wp2
      exact ⟨((keeps_ext hb5).trans (KeepsOthers.setCell _ _ _)).from _, ⟨rfl, HSN.out⟩, S5.out.set 2 rfl 0 (.bool false)⟩
  case done =>
    rintro D ys W hD hys ⟨ho, S⟩ hK
    have HF : Hid ((pairs O T).all (backB R V) = true) := by unfold Hid; rw [← hys]; exact ho
    have c4 := (S.blk 2 rfl).cell 0
    have f4 := (S.blk 2 rfl).frozen 0
    have z4 := (S.blk 2 rfl).lt
    have hKs := (KeepsOthers.setCell W ⟨w.heap.size + 1, 0, none⟩ (.bool true)).same D _ hK rfl
    have S' := (S.set 2 rfl 0 (.bool true)).putObj (chkPc_cells w.heap.size b po no co pt nt ct pr nr cr pv nv cv true) (.deferred none) (Nat.le_trans S4.out.ext.size hD) hKs rfl
    have k4 := (S'.blk 2 rfl).cell 0
    have SH := Lib.hid S; clear S
    have SH' := Lib.hid S'; clear S'
    go_wp2
    refine ⟨by simp, .inl ⟨_, _, rfl, run_takeDeferred hKs, ?_⟩⟩
    exact ⟨.bool true, by simp [results, Try.results35, go_sem, k4], ret_bool HF.out.symm, SH'.out.ext⟩
  case stop =>
    rintro D c pre W hD hSp ⟨⟨rfl, hno⟩, S⟩ hK
    have HF : Hid ((pairs O T).all (backB R V) = false) := by
      obtain ⟨t, ht⟩ := hSp
      unfold Hid; rw [← ht, List.all_append, hno]; rfl
    have S' := S.putObj (chkPc_cells w.heap.size b po no co pt nt ct pr nr cr pv nv cv false) (.deferred none) (Nat.le_trans S4.out.ext.size hD) hK rfl
    have k4 := (S'.blk 2 rfl).cell 0
    have SH := Lib.hid S; clear S
    have SH' := Lib.hid S'; clear S'
    refine wpIn_wide.2 ?_
    go_wp2
    refine ⟨by simp, .inl ⟨_, _, rfl, run_takeDeferred hK, ?_⟩⟩
    exact ⟨.bool false, by simp [results, Try.results35, go_sem, k4], ret_bool HF.out.symm, SH'.out.ext⟩
theorem CheckR (po : Option Addr) (no co : Nat) (O : List Int) (pt : Option Addr) (nt ct : Nat) (T : List Int) (pr : Option Addr) (nr cr : Nat) (R : List Int) (pv : Option Addr) (nv cv : Nat) (V : List Int) (w : World) (hO : Rd w 1 po no (encI O)) (hT : Rd w 1 pt nt (encI T)) (hR : Rd w 1 pr nr (encI R)) (hV : Rd w 1 pv nv (encI V)) (hct : nt ≤ ct) (hcv : nv ≤ cv) : Calls Try.prog 35 #[.agg #[.slice po no co, .slice pt nt ct, .slice pr nr cr, .slice pv nv cv]] w fun e w' => e = .returned (.bool (checkR O T R V)) ∧ Ext w w' := by
  have l1 := hO.nI
  have l2 := hT.nI
  have l3 := hR.nI
  have l4 := hV.nI
  by_cases h : no ≠ nr ∨ nt ≠ nv ∨ halfB O T = false ∨ halfB R V = false
  · rw [checkR_no (by rw [← l1, ← l2, ← l3, ← l4]; exact h)]
    exact CheckR_no po no co O pt nt ct T pr nr cr R pv nv cv V w hO hT hR hV hct hcv h
  · have h1 : no = nr := by
      by_cases h1 : no = nr
      · exact h1
      · exact absurd (.inl h1) h
    have h2 : nt = nv := by
      by_cases h2 : nt = nv
      · exact h2
      · exact absurd (.inr (.inl h2)) h
    have h3 : halfB O T = true := by
      cases h3 : halfB O T with
      | true => rfl
      | false => exact absurd (.inr (.inr (.inl h3))) h
    have h4 : halfB R V = true := by
      cases h4 : halfB R V with
      | true => rfl
      | false => exact absurd (.inr (.inr (.inr h4))) h
    have : checkR O T R V = (pairs O T).all (backB R V) := by
      unfold checkR
      rw [h3, h4, ← l1, ← l2, ← l3, ← l4, h1, h2]
      simp only [decide_true, Bool.true_and]
      rfl
    rw [this]
    exact CheckR_yes po no co O pt nt ct T pr nr cr R pv nv cv V w hO hT hR hV hct hcv h1 h2 h3 h4
end Go.Proofs.Ytkekibnhmfmhmaa
/- The program's rows of a place: row, Out, In, Has. -/
namespace Go.Proofs.Ytkekibnhmfmhmaa
open Go Go.RowKit Go.Shelf Go.Lib
/-- is a place told, by these offsets? -/
def outB (b : Bool) (A : List Int) (v : Int) : Bool := b && decide (0 ≤ v) && decide (v < (A.length : Int) - 1)
def outL (b : Bool) (A B : List Int) (v : Int) : List Int := if outB b A v = true then rowL A B v.toNat else []
theorem outL_no {b : Bool} {A B : List Int} {v : Int} (h : outB b A v = false) : outL b A B v = [] := by unfold outL; rw [h]; rfl
theorem outL_yes {b : Bool} {A B : List Int} {v : Int} (h : outB b A v = true) : outL b A B v = rowL A B v.toNat := by unfold outL; rw [h]; rfl
theorem checkR_half {O T R V : List Int} (h : checkR O T R V = true) : O.length = R.length ∧ T.length = V.length ∧ halfB O T = true ∧ halfB R V = true := by
  unfold checkR at h
  simp only [Bool.and_eq_true, decide_eq_true_eq] at h
  exact ⟨h.1.1.1.1, h.1.1.1.2, h.1.1.2, h.1.2⟩
set_option maxRecDepth 100000 in
set_option maxHeartbeats 4000000 in
theorem rowG (po : Option Addr) (no co : Nat) (O : List Int) (pt : Option Addr) (nt ct : Nat) (T : List Int) (pr : Option Addr) (nr cr : Nat) (R : List Int) (pv : Option Addr) (nv cv : Nat) (V : List Int) (w : World) (pa : Option Addr) (na ca : Nat) (A : List Int) (pb : Option Addr) (nb cb : Nat) (B : List Int) (v : Int) (hO : Rd w 1 po no (encI O)) (hT : Rd w 1 pt nt (encI T)) (hR : Rd w 1 pr nr (encI R)) (hV : Rd w 1 pv nv (encI V)) (hct : nt ≤ ct) (hcv : nv ≤ cv) (hA : Rd w 1 pa na (encI A)) (hB : Rd w 1 pb nb (encI B)) (hcb : nb ≤ cb) (hAB : checkR O T R V = true → offB A B = true) :
    Calls Try.prog 42 #[.agg #[.slice po no co, .slice pt nt ct, .slice pr nr cr, .slice pv nv cv], .slice pa na ca, .slice pb nb cb, .int .i64 v] w fun e w' => ∃ q c, e = .returned (.tuple #[.slice q (outL (checkR O T R V) A B v).length c, .bool (outB (checkR O T R V) A v)]) ∧ Sep w w' [.own 3 1 q (outL (checkR O T R V) A B v).length c (encI (outL (checkR O T R V) A B v))] := by
  have na1 := hA.small
  have nb1 := hB.small
  have l1 := Lib.hid hA.nI
  have l2 := Lib.hid hB.nI
  have pA := hA.ptr
  have S0 := Lib.hid ((Sep.start w).al #[.slice po no co, .slice pt nt ct, .slice pr nr cr, .slice pv nv cv] 53 w.heap.size rfl)
  have HC := Lib.hid (fun W1 (h : Ext w W1) => CheckR po no co O pt nt ct T pr nr cr R pv nv cv V W1 (hO.ext h) (hT.ext h) (hR.ext h) (hV.ext h) hct hcv)
  clear hO hT hR hV
  cases hck : checkR O T R V with
  | false =>
    rw [hck] at HC
    have hno : outB false A v = false := rfl
    rw [outL_no hno, hno]
    clear hA hB hAB hck hno
    go_enter Try.func42, Try.ntmps42
    go_wp2_with (go_at_call 35; go_must (refine (HC.out _ S0.out.ext).mono ?_; rintro e w1 ⟨rfl, hb⟩; have S1 := Lib.hid (S0.out.call hb); clear hb))
    go_ret2
    exact ⟨none, 0, rfl, ((Sep.start w).call S1.out.ext).nilrow _ _⟩
  | true =>
    rw [hck] at HC
    have hof := hAB hck
    have HOK := offOk_of hof
    have w2 := HOK.two
    have hwd : withB ((na:Int) - 2) [v] = outB true A v := by
      unfold withB outB
      rw [← l1.out]
      simp
      by_cases h1 : 0 ≤ v <;> simp [h1] <;> omega
    have HW := Lib.hid (fun W1 : World => withinG ((na:Int) - 2) (some ⟨W1.heap.size, 0, none⟩) 1 1 [v] _ (Rd.oneI W1 3 v))
    rw [hwd] at HW
    have q0 : (2:Int) ≤ na := by have := l1.out; omega
    cases ho : outB true A v with
    | false =>
      rw [ho] at HW
      rw [outL_no ho]
      clear hA hB hAB hck HOK hof hwd ho
      go_enter Try.func42, Try.ntmps42
      go_wp2_with (first | (go_at_call 52; go_must (refine (HW.out _).mono ?_; rintro e w2 ⟨rfl, rfl⟩)) | (go_at_call 35; go_must (refine (HC.out _ S0.out.ext).mono ?_; rintro e w1 ⟨rfl, hb⟩; have S1 := Lib.hid (S0.out.call hb); clear hb)))
      go_ret2
      exact ⟨none, 0, rfl, ((((Sep.start w).call S1.out.ext).junk _)).nilrow _ _⟩
    | true =>
      rw [ho] at HW
      have ho2 := ho
      unfold outB at ho2
      simp only [Bool.true_and, Bool.and_eq_true, decide_eq_true_eq] at ho2
      obtain ⟨v1, v2⟩ := ho2
      rw [outL_yes ho]
      obtain ⟨k, rfl⟩ : ∃ k : Nat, v = (k : Int) := ⟨v.toNat, by omega⟩
      rw [Int.toNat_natCast]
      have hk1 : k + 1 < A.length := by omega
      have q1 := HOK.lo k (by omega)
      have q2 := HOK.le k hk1
      have q3 := HOK.hi (k + 1) hk1
      have hrl := rowL_len HOK hk1
      have RL0 := hB.rowOf HOK hcb hk1
      have HA := Lib.hid hA
      obtain ⟨a, ha⟩ : ∃ a : Nat, nth A k = (a : Int) := ⟨(nth A k).toNat, by omega⟩
      obtain ⟨c, hc⟩ : ∃ c : Nat, nth A (k + 1) = (c : Int) := ⟨(nth A (k + 1)).toNat, by omega⟩
      rw [ha] at q1 q2 hrl RL0
      rw [hc] at q2 q3 hrl RL0
      simp only [Int.toNat_natCast] at hrl RL0
      have hq3 : (c:Int) ≤ cb := by have := l2.out; omega
      have hlen := (offB_parts hof).2.2.1
      have HLEN : Hid (c - a ≤ 100000) := by unfold Hid; have := l2.out; omega
      have d1 : (0:Int) ≤ k := by omega
      have d2 : (k:Int) < na := by have := l1.out; omega
      have d3 : (0:Int) ≤ (k:Int) + 1 := by omega
      have d4 : (k:Int) + 1 < na := by have := l1.out; omega
      have G1 : Hid (∀ W, Ext w W → W.cell? (adr pa k) = some (.int .i64 a) ∧ W.cell? (adr pa (k + 1)) = some (.int .i64 c)) := fun W h => by
        have h1 := (HA.out.ext h).cI (k := k) (by omega)
        have h2 := (HA.out.ext h).cI (k := k + 1) (by omega)
        rw [ha] at h1; rw [hc] at h2; exact ⟨h1, h2⟩
      have HRL := Lib.hid hrl
      have RL := Lib.hid RL0
      clear hA hB hAB hck HOK hof hwd ho ha hc v1 v2 hk1 q3 hrl RL0 hlen HA
      rw [HRL.out]
      go_enter Try.func42, Try.ntmps42
      go_wp2_with (first | (go_at_call 52; go_must (refine (HW.out _).mono ?_; rintro e w2 ⟨rfl, rfl⟩; obtain ⟨g1, g2⟩ := G1.out _ (S1.out.junk (.cells #[.int .i64 k] 3)).ext)) | (go_at_call 35; go_must (refine (HC.out _ S0.out.ext).mono ?_; rintro e w1 ⟨rfl, hb⟩; have S1 := Lib.hid (S0.out.call hb); clear hb)))
      obtain ⟨X, hX⟩ : ∃ X, X = w1.alloc (.cells #[.int .i64 (k:Int)] 3) := ⟨_, rfl⟩
      have SX := Lib.hid (hX ▸ (S1.out.junk (.cells #[.int .i64 (k:Int)] 3)) : Sep w X _)
      rw [← hX] at g1 g2 ⊢
      have x1 := fun x : ExtOf X => x.ext.cell g1
      have x2 := fun x : ExtOf X => x.ext.cell g2
      refine wp_region_mix [true, true, true, true, true, true, true, true, true, true, true, false] (fun _ u W => ∃ q d, u = .slice q (c - a) d ∧ W.ownsRow X.heap.size 3 1 (.slice q (c - a) d) (c - a) (encI (rowL A B k))) (by kernel_rfl) (by kernel_rfl) (by kernel_rfl) (fun _ _ _ _ hE ⟨p, d, h1, h2⟩ => ⟨p, d, h1, hE.own h2⟩) ?_
      simp only [nfM]
      repeat (go_big_quiet_step ((fail)))
      refine wpQuiet_nil ⟨⟨fun vs W hE hd => ?_, trivial⟩, fun vs W hE hkn => ?_⟩
      · simp [putM, go_sem]
        exact (CloneI _ (c - a) _ (rowL A B k) W (RL.out.ext (Ext.trans SX.out.ext hE)) HLEN.out).mono fun e w' ⟨q, d, h1, S⟩ => ⟨_, h1, ⟨q, d, rfl, own_base (S.own 0 rfl) hE.size⟩, S.ext⟩
      · obtain ⟨⟨q, d, hv, hown⟩, _⟩ := hkn
        have S5 := Lib.hid (SX.out.fresh hE hown (Nat.le_refl _))
        simp only [putM, hv, List.length_cons, List.length_nil, Nat.zero_add, Nat.reduceAdd, List.drop_succ_cons, List.drop_zero]
        clear x1 x2 g1 g2 hv hown hE hX
        go_wp2
        go_ret2
        exact ⟨q, d, rfl, S5.out.pick [0] (by decide) rfl⟩
theorem OutG (po : Option Addr) (no co : Nat) (O : List Int) (pt : Option Addr) (nt ct : Nat) (T : List Int) (pr : Option Addr) (nr cr : Nat) (R : List Int) (pv : Option Addr) (nv cv : Nat) (V : List Int) (w : World) (v : Int) (hO : Rd w 1 po no (encI O)) (hT : Rd w 1 pt nt (encI T)) (hR : Rd w 1 pr nr (encI R)) (hV : Rd w 1 pv nv (encI V)) (hct : nt ≤ ct) (hcv : nv ≤ cv) : Calls Try.prog 33 #[.agg #[.slice po no co, .slice pt nt ct, .slice pr nr cr, .slice pv nv cv], .int .i64 v] w fun e w' => ∃ q c, e = .returned (.tuple #[.slice q (outL (checkR O T R V) O T v).length c, .bool (outB (checkR O T R V) O v)]) ∧ Sep w w' [.own 3 1 q (outL (checkR O T R V) O T v).length c (encI (outL (checkR O T R V) O T v))] := by
  have S0 := Lib.hid ((Sep.start w).al #[.slice po no co, .slice pt nt ct, .slice pr nr cr, .slice pv nv cv] 53 w.heap.size rfl)
  have HR := Lib.hid (fun W1 (h : Ext w W1) => rowG po no co O pt nt ct T pr nr cr R pv nv cv V W1 po no co O pt nt ct T v (hO.ext h) (hT.ext h) (hR.ext h) (hV.ext h) hct hcv (hO.ext h) (hT.ext h) hct (fun h => halfB_off (checkR_half h).2.2.1))
  clear hO hT hR hV
  go_enter Try.func33, Try.ntmps33
  go_wp2_with (go_at_call 42; go_must (refine (HR.out _ S0.out.ext).mono ?_; rintro e w1 ⟨q, c, rfl, T⟩; have S1 := Lib.hid (S0.out.comp T); clear T))
  go_ret2
  exact ⟨q, c, rfl, S1.out.pick [0] (by decide) rfl⟩
theorem InG (po : Option Addr) (no co : Nat) (O : List Int) (pt : Option Addr) (nt ct : Nat) (T : List Int) (pr : Option Addr) (nr cr : Nat) (R : List Int) (pv : Option Addr) (nv cv : Nat) (V : List Int) (w : World) (v : Int) (hO : Rd w 1 po no (encI O)) (hT : Rd w 1 pt nt (encI T)) (hR : Rd w 1 pr nr (encI R)) (hV : Rd w 1 pv nv (encI V)) (hct : nt ≤ ct) (hcv : nv ≤ cv) : Calls Try.prog 34 #[.agg #[.slice po no co, .slice pt nt ct, .slice pr nr cr, .slice pv nv cv], .int .i64 v] w fun e w' => ∃ q c, e = .returned (.tuple #[.slice q (outL (checkR O T R V) R V v).length c, .bool (outB (checkR O T R V) R v)]) ∧ Sep w w' [.own 3 1 q (outL (checkR O T R V) R V v).length c (encI (outL (checkR O T R V) R V v))] := by
  have S0 := Lib.hid ((Sep.start w).al #[.slice po no co, .slice pt nt ct, .slice pr nr cr, .slice pv nv cv] 53 w.heap.size rfl)
  have HR := Lib.hid (fun W1 (h : Ext w W1) => rowG po no co O pt nt ct T pr nr cr R pv nv cv V W1 pr nr cr R pv nv cv V v (hO.ext h) (hT.ext h) (hR.ext h) (hV.ext h) hct hcv (hR.ext h) (hV.ext h) hcv (fun h => halfB_off (checkR_half h).2.2.2))
  clear hO hT hR hV
  go_enter Try.func34, Try.ntmps34
  go_wp2_with (go_at_call 42; go_must (refine (HR.out _ S0.out.ext).mono ?_; rintro e w1 ⟨q, c, rfl, T⟩; have S1 := Lib.hid (S0.out.comp T); clear T))
  go_ret2
  exact ⟨q, c, rfl, S1.out.pick [0] (by decide) rfl⟩
/-- is there an edge? -/
def hasB (b : Bool) (A B : List Int) (v u : Int) : Bool := outB b A v && inB (outL b A B v) u
theorem outL_len {O T R V A B : List Int} {v : Int} (hB : B.length ≤ 9223372036854775807) : (outL (checkR O T R V) A B v).length ≤ 9223372036854775807 := by
  unfold outL
  split
  · unfold rowL; rw [List.length_take, List.length_drop]; omega
  · simp
theorem HasG (po : Option Addr) (no co : Nat) (O : List Int) (pt : Option Addr) (nt ct : Nat) (T : List Int) (pr : Option Addr) (nr cr : Nat) (R : List Int) (pv : Option Addr) (nv cv : Nat) (V : List Int) (w : World) (v u : Int) (hO : Rd w 1 po no (encI O)) (hT : Rd w 1 pt nt (encI T)) (hR : Rd w 1 pr nr (encI R)) (hV : Rd w 1 pv nv (encI V)) (hct : nt ≤ ct) (hcv : nv ≤ cv) : Calls Try.prog 18 #[.agg #[.slice po no co, .slice pt nt ct, .slice pr nr cr, .slice pv nv cv], .int .i64 v, .int .i64 u] w fun e w' => e = .returned (.bool (hasB (checkR O T R V) O T v u)) ∧ Ext w w' := by
  have S0 := Lib.hid ((Sep.start w).al #[.slice po no co, .slice pt nt ct, .slice pr nr cr, .slice pv nv cv] 53 w.heap.size rfl)
  have HR := Lib.hid (fun W1 (h : Ext w W1) => OutG po no co O pt nt ct T pr nr cr R pv nv cv V W1 v (hO.ext h) (hT.ext h) (hR.ext h) (hV.ext h) hct hcv)
  have HL := Lib.hid (outL_len (O := O) (T := T) (R := R) (V := V) (A := O) (v := v) (B := T) (by rw [← hT.nI]; exact hT.small))
  have HB : Hid (hasB (checkR O T R V) O T v u = (outB (checkR O T R V) O v && inB (outL (checkR O T R V) O T v) u)) := rfl
  clear hO hT hR hV
  generalize outL (checkR O T R V) O T v = L at *
  cases ho : outB (checkR O T R V) O v with
  | true =>
    rw [ho] at HR HB
    clear ho
    rw [HB.out]
    go_enter Try.func18, Try.ntmps18
    go_wp2_with (first
      | (go_at_call 36; go_must (refine (ContI _ _ _ L u _ (S1.out.rd 0 rfl HL.out)).mono ?_; rintro e w2 ⟨rfl, hb⟩; have S2 := Lib.hid (S1.out.call hb); clear hb))
      | (go_at_call 33; go_must (refine (HR.out _ S0.out.ext).mono ?_; rintro e w1 ⟨q, c, rfl, T⟩; have S1 := Lib.hid (S0.out.comp T); clear T)))
    go_ret
    exact ⟨rfl, S2.out.ext⟩
  | false =>
    rw [ho] at HR HB
    clear ho
    rw [HB.out]
    go_enter Try.func18, Try.ntmps18
    go_wp2_with (go_at_call 33; go_must (refine (HR.out _ S0.out.ext).mono ?_; rintro e w1 ⟨q, c, rfl, T⟩; have S1 := Lib.hid (S0.out.comp T); clear T))
    go_ret
    exact ⟨rfl, S1.out.ext⟩
end Go.Proofs.Ytkekibnhmfmhmaa
/- The program's rows of a graph: laid. -/
namespace Go.Proofs.Ytkekibnhmfmhmaa
open Go Go.RowKit Go.Shelf Go.Lib
theorem encI_set (l : List Int) (k : Nat) (x : Int) : (encI l).set k (.int .i64 x) = encI (l.set k x) := by simp [encI, List.map_set]
theorem made_encI (n : Nat) : (madeCells (Value.int .i64 0).cells (n * 1)).toList = encI (List.replicate n 0) := by
  apply List.ext_getElem
  · simp [madeCells, encI]
  · intro i h1 h2
    simp [madeCells, encI, Value.cells, Nat.mod_one]
theorem cntL_nil (n : Nat) : cntL n [] = List.replicate (n + 1) 0 := by
  apply List.ext_getElem
  · simp [cntL]
  · intro i h1 h2
    simp [cntL]
theorem Rd.oneIat (w : World) (t : TypeId) (a : Int) (b : Nat) (h : w.heap.size = b) : Rd (w.alloc (.cells #[.int .i64 a] t)) 1 (some ⟨b, 0, none⟩) 1 (encI [a]) := by subst h; exact Rd.oneI w t a
/-- 'make' of a row, as a piece -/
theorem wpList_make_sep {P : Program} {w0 w : World} {Γ : List Pc} {ops : Array Oper} {rest : List Oper} {o : Oper} {a : Act} {Q : Exit → Act → World → Prop}
    (hg : o.guard = none) (l c : Operand) (t : TypeId) (hop : o.op = Op.makeSlice t l c)
    (e : TypeId) (i : TypeInfo) (z : Value) (size : Nat) (h1 : P.underlying t = some (.slice e)) (h2 : P.info? e = some i) (h3 : i.zero = some z) (h4 : i.size = size)
    (L : Int) (n : Nat) (hl : a.eval l = .int .i64 L) (hc : a.eval c = .int .i64 L) (hL : L = (n : Int)) (b2 : i.bytes * n ≤ 281474976710656) (b3 : n ≤ maxLen) (S : Sep w0 w Γ)
    (hK : ∀ w', Sep w0 w' (.own e size (some ⟨w.heap.size, 0, none⟩) n n (madeCells z.cells (n * size)).toList :: Γ) → wpList P ops Q rest (a.put o.dst (.slice (some ⟨w.heap.size, 0, none⟩) n n)) w') :
    wpList P ops Q (o :: rest) a w :=
  wpList_make_full w hg l c t hop w.heap.size e i z size h1 h2 h3 h4 .i64 .i64 L L n hl hc hL hL b2 b3 (Nat.le_refl _) fun w' ho hgr =>
    hK w' (S.fresh ⟨hgr.os, hgr.tape, hgr.output, hgr.size, fun k hk => hgr.block k hk (by simp)⟩ ho (Nat.le_refl _))
end Go.Proofs.Ytkekibnhmfmhmaa
namespace Go.Proofs.Ytkekibnhmfmhmaa
open Go Go.RowKit
end Go.Proofs.Ytkekibnhmfmhmaa
/- The program's Normal: a graph in memory of its own. -/
namespace Go.Proofs.Ytkekibnhmfmhmaa
open Go Go.RowKit Go.Shelf Go.Lib Go.Sort
theorem allLt_zero {p : Nat → Prop} : ∀ i, i < 0 → p i := fun i h => absurd h (Nat.not_lt_zero i)
theorem allLt_succ {n : Nat} {p : Nat → Prop} (h : ∀ i, i < n → p i) (hn : p n) : ∀ i, i < n + 1 → p i := fun i hi => by
  rcases Nat.lt_or_ge i n with h1 | h1
  · exact h i h1
  · obtain rfl : i = n := by omega
    exact hn
end Go.Proofs.Ytkekibnhmfmhmaa
/- The program's Normal by the plain law; Degrees. -/
namespace Go.Proofs.Ytkekibnhmfmhmaa
open Go Go.RowKit Go.Shelf Go.Lib Go.Sort
theorem own_far {w : World} {base : Nat} {e : TypeId} {size n c : Nat} {q : Option Addr} {xs : List Value} (h : w.ownsRow base e size (.slice q n c) n xs) {b : Nat} (hb : b < base) (i : Nat) (u : Value) : (w.setCell ⟨b, i, none⟩ u).ownsRow base e size (.slice q n c) n xs := by
  refine ⟨h.1, ?_⟩
  rcases h.2 with h2 | ⟨g, cap, cur, h1, hg, hh, r⟩
  · exact .inl h2
  · exact .inr ⟨g, cap, cur, h1, hg, (Below.heap_setCell w ⟨b, i, none⟩ u g (by show g ≠ b; omega)).trans hh, r⟩
/-- the counts of an edge list's places -/
def outN (E : List (Int × Int)) (v : Int) : Nat := E.countP fun x => x.1 == v
def inN (E : List (Int × Int)) (v : Int) : Nat := E.countP fun x => x.2 == v
def placeB (N : Int) (E : List (Int × Int)) (W : List (List ByteArray)) (v : Int) : Bool := checkB N E W && decide (0 ≤ v ∧ v < N)
def degO (N : Int) (E : List (Int × Int)) (W : List (List ByteArray)) (v : Int) : Int := if placeB N E W v then outN (putAll lessE E) v else 0
def degI (N : Int) (E : List (Int × Int)) (W : List (List ByteArray)) (v : Int) : Int := if placeB N E W v then inN (putAll lessE E) v else 0
theorem outN_step {E : List (Int × Int)} {v : Int} {k : Nat} (hk : k < E.length) : outN (E.take (k + 1)) v = outN (E.take k) v + if (nth E k).1 == v then 1 else 0 := by
  unfold outN; rw [take_succ_nth E k hk, List.countP_append, List.countP_singleton]
theorem inN_step {E : List (Int × Int)} {v : Int} {k : Nat} (hk : k < E.length) : inN (E.take (k + 1)) v = inN (E.take k) v + if (nth E k).2 == v then 1 else 0 := by
  unfold inN; rw [take_succ_nth E k hk, List.countP_append, List.countP_singleton]
theorem outN_le (E : List (Int × Int)) (v : Int) : outN E v ≤ E.length := List.countP_le_length
theorem inN_le (E : List (Int × Int)) (v : Int) : inN E v ≤ E.length := List.countP_le_length
end Go.Proofs.Ytkekibnhmfmhmaa
/- The program's Turned. -/
namespace Go.Proofs.Ytkekibnhmfmhmaa
open Go Go.RowKit Go.Shelf Go.Lib Go.Sort
/-- the first k turned, the others as they were -/
def turnK (E : List (Int × Int)) (k : Nat) : List (Int × Int) := (E.take k).map swapE ++ E.drop k
theorem turnK_len (E : List (Int × Int)) (k : Nat) : (turnK E k).length = E.length := by simp [turnK]; omega
theorem turnK_nth (E : List (Int × Int)) (k : Nat) (h : k < E.length) : nth (turnK E k) k = nth E k := by
  have hl : k < (turnK E k).length := by rw [turnK_len]; exact h
  unfold nth turnK
  rw [List.getD_eq_getElem?_getD, List.getD_eq_getElem?_getD, List.getElem?_append_right (by simp; omega)]
  simp [Nat.min_eq_left (Nat.le_of_lt h)]
theorem turnK_step (E : List (Int × Int)) (k : Nat) (h : k < E.length) : ((encE (turnK E k)).set (k * 2) (.int .i64 (nth E k).2)).set (k * 2 + 1) (.int .i64 (nth E k).1) = encE (turnK E (k + 1)) := by
  have h1 : encE (turnK E k) = encE ((E.take k).map swapE) ++ ([.int .i64 (nth E k).1, .int .i64 (nth E k).2] ++ encE (E.drop (k + 1))) := by
    unfold turnK
    rw [encE_append, drop_nth E k h]
    rfl
  have h2 : encE (turnK E (k + 1)) = encE ((E.take k).map swapE) ++ ([.int .i64 (nth E k).2, .int .i64 (nth E k).1] ++ encE (E.drop (k + 1))) := by
    unfold turnK
    rw [map_take_succ swapE E k h, encE_append, encE_append, List.append_assoc]
    rfl
  have hl : (encE ((E.take k).map swapE)).length = k * 2 := by rw [encE_len, List.length_map, List.length_take]; omega
  rw [h1, h2, List.set_append_right _ _ (by omega), List.set_append_right _ _ (by omega), hl]
  simp [show k * 2 + 1 - k * 2 = 1 from by omega]
end Go.Proofs.Ytkekibnhmfmhmaa
/- Plain facts of chapter 2 that many laws use: what is not looked at bounds what is; rows that are read. -/
namespace Go.Proofs.Ytkekibnhmfmhmaa
open Go Go.RowKit
theorem szW_of_big {E : List (Int × Int)} {W : List (List ByteArray)} (h : bigB E W = false) : SzW W := by
  unfold bigB at h
  simp only [Bool.or_eq_false_iff, Bool.and_eq_false_iff] at h
  obtain ⟨⟨⟨h1, h2⟩, _⟩, _⟩ := h
  have hw : W.length ≤ 250 := by simpa using h2
  have hb : W.any badRow = false := by
    rcases h1 with h1 | h1
    · simp at h1; omega
    · exact h1
  intro l hl s hs
  have h3 := List.any_eq_false.1 hb l hl
  unfold badRow at h3
  simp only [Bool.or_eq_true, not_or, Bool.not_eq_true] at h3
  have h4 := List.any_eq_false.1 h3.2 s hs
  unfold longB at h4
  simp at h4
  omega
theorem lens_of_big {E : List (Int × Int)} {W : List (List ByteArray)} (h : bigB E W = false) : E.length ≤ 2100 ∧ W.length ≤ 250 ∧ ∀ l ∈ W, l.length ≤ 20 := by
  unfold bigB at h
  simp only [Bool.or_eq_false_iff, Bool.and_eq_false_iff] at h
  obtain ⟨⟨⟨h1, h2⟩, _⟩, h4⟩ := h
  have hw : W.length ≤ 250 := by simpa using h2
  refine ⟨by simpa using h4, hw, fun l hl => ?_⟩
  have hb : W.any badRow = false := by
    rcases h1 with h1 | h1
    · simp at h1; omega
    · exact h1
  have h3 := List.any_eq_false.1 hb l hl
  unfold badRow at h3
  simp at h3
  omega
theorem norm_lens (N : Int) (E : List (Int × Int)) (W : List (List ByteArray)) (h1 : E.length ≤ 2100) (h2 : W.length ≤ 250) (h3 : ∀ l ∈ W, l.length ≤ 20) : (normE N E W).length ≤ 2100 ∧ (normW N E W).length ≤ 250 ∧ ∀ l ∈ normW N E W, l.length ≤ 20 := by
  unfold normE normW
  by_cases hc : checkB N E W = true
  · simp only [hc, if_true]
    refine ⟨Nat.le_trans (putAll_len _ _) h1, by rw [List.length_map]; exact h2, fun l hl => ?_⟩
    obtain ⟨l', hl', rfl⟩ := List.mem_map.1 hl
    exact Nat.le_trans (putAll_len _ _) (h3 l' hl')
  · have : checkB N E W = false := by simpa using hc
    simp only [this, Bool.false_eq_true, if_false]
    exact ⟨by simp, by simp, fun l hl => by cases hl⟩
theorem Blk.rd {W : World} {g : Nat} {t : TypeId} {cs : Array Value} (h : Blk W g t cs) {n size : Nat} {xs : List Value} (hx : cs.toList = xs) (hn : xs.length = n * size) (hs : n ≤ 9223372036854775807) : Rd W size (some ⟨g, 0, none⟩) n xs := by
  subst hx
  refine ⟨hn, .inr ⟨_, _, rfl⟩, hs, fun j hj => ?_⟩
  rw [adr_some, Nat.zero_add, h.cell j]
  rw [List.getD_eq_getElem?_getD, Array.getElem?_toList, Array.getElem?_eq_getElem (by simp at hn; omega)]
  rfl
theorem alloc3B (w : World) (c1 c2 c3 : Array Value) (t1 t2 t3 : TypeId) : Blk (((w.alloc (.cells c1 t1)).alloc (.cells c2 t2)).alloc (.cells c3 t3)) w.heap.size t1 c1 ∧ Blk (((w.alloc (.cells c1 t1)).alloc (.cells c2 t2)).alloc (.cells c3 t3)) (w.heap.size + 1) t2 c2 ∧
    Blk (((w.alloc (.cells c1 t1)).alloc (.cells c2 t2)).alloc (.cells c3 t3)) (w.heap.size + 1 + 1) t3 c3 ∧ Ext w (((w.alloc (.cells c1 t1)).alloc (.cells c2 t2)).alloc (.cells c3 t3)) := alloc3 _ _ _ _
theorem alloc2B (w : World) (c1 c2 : Array Value) (t1 t2 : TypeId) : Blk ((w.alloc (.cells c1 t1)).alloc (.cells c2 t2)) w.heap.size t1 c1 ∧ Blk ((w.alloc (.cells c1 t1)).alloc (.cells c2 t2)) (w.heap.size + 1) t2 c2 ∧ Ext w ((w.alloc (.cells c1 t1)).alloc (.cells c2 t2)) := alloc2 _ _ _
end Go.Proofs.Ytkekibnhmfmhmaa
/- The program's rise and Is. -/
namespace Go.Proofs.Ytkekibnhmfmhmaa
open Go Go.RowKit Go.Shelf Go.Lib Go.Sort
theorem Ext.growN {w w' : World} (h : Ext w w') (os : Array Obj) : Ext w (grow w' os) :=
  ⟨h.os, h.tape, h.output, by rw [size_grow]; exact Nat.le_trans h.size (Nat.le_add_right _ _), fun k hk => (heap_grow_old w' os (Nat.lt_of_lt_of_le hk h.size)).trans (h.block k hk)⟩
theorem cmpE_neg (x y : Int × Int) : cmpE x y < 0 ↔ lessE x y = true := by
  have := ltOf_cmpE x y
  unfold ltOf at this
  rw [← this]; simp
theorem cmpS_neg (x y : ByteArray) : cmpS x y < 0 ↔ sLess x y = true := by
  have := ltOf_cmpS x y
  unfold ltOf at this
  rw [← this]; simp
end Go.Proofs.Ytkekibnhmfmhmaa
/- The program's rows of a graph: Make. -/
namespace Go.Proofs.Ytkekibnhmfmhmaa
open Go Go.RowKit Go.Shelf Go.Lib
/-- rows that are read -/
def RowsV (w : World) (v : Value) (O T R V : List Int) : Prop :=
  ∃ po no co pt nt ct pr nr cr pv nv cv, v = .agg #[.slice po no co, .slice pt nt ct, .slice pr nr cr, .slice pv nv cv] ∧ Rd w 1 po no (encI O) ∧ Rd w 1 pt nt (encI T) ∧ Rd w 1 pr nr (encI R) ∧ Rd w 1 pv nv (encI V) ∧ no ≤ co ∧ nt ≤ ct ∧ nr ≤ cr ∧ nv ≤ cv
theorem RowsV.ext {w w' : World} {v : Value} {O T R V : List Int} (h : RowsV w v O T R V) (he : Ext w w') : RowsV w' v O T R V := by
  obtain ⟨po, no, co, pt, nt, ct, pr, nr, cr, pv, nv, cv, h0, h1, h2, h3, h4, h5⟩ := h
  exact ⟨po, no, co, pt, nt, ct, pr, nr, cr, pv, nv, cv, h0, h1.ext he, h2.ext he, h3.ext he, h4.ext he, h5⟩
def turnE (E : List (Int × Int)) : List (Int × Int) := putAll lessE (E.map swapE)
def rO (b : Bool) (n : Nat) (E : List (Int × Int)) : List Int := if b = true then offL n E else []
def rT (b : Bool) (E : List (Int × Int)) : List Int := if b = true then toL E else []
def rC (b : Bool) : Int := if b = true then 0 else 20
theorem turnE_bd {N : Int} {E : List (Int × Int)} (h : ∀ x ∈ E, edgeOk N x = true) : ∀ x ∈ turnE E, 0 ≤ x.1 ∧ x.1 < N := fun x hx => by
  unfold turnE at hx
  rw [putAll_mem stoE, List.mem_map] at hx
  obtain ⟨y, hy, rfl⟩ := hx
  have := h y hy
  unfold edgeOk at this
  simp at this
  unfold swapE
  simp only
  omega
end Go.Proofs.Ytkekibnhmfmhmaa
/- Rows made of a graph are right, and tell the graph's edges; rows that are right tell the same, either way. No program in sight. -/
namespace Go.Proofs.Ytkekibnhmfmhmaa
open Go Go.RowKit
theorem nodup_le {α : Type} [DecidableEq α] : ∀ {l m : List α}, l.Nodup → (∀ x ∈ l, x ∈ m) → l.length ≤ m.length
  | [], _, _, _ => by simp
  | a :: l, m, h, hm => by
    obtain ⟨h1, h2⟩ := List.nodup_cons.1 h
    have ha := hm a (by simp)
    have ih := nodup_le (m := m.erase a) h2 fun x hx => (List.mem_erase_of_ne (fun e => h1 (by rw [← e]; exact hx))).2 (hm x (by simp [hx]))
    rw [List.length_erase_of_mem ha] at ih
    have := List.length_pos_of_mem ha
    rw [List.length_cons]; omega
theorem rises_pick {α : Type} {lt : α → α → Bool} {l m : List α} (h : Rises lt l) (hs : m.Sublist l) : Rises lt m := List.Pairwise.sublist hs h
section
variable {n : Nat} {A : List (Int × Int)}
/-- the k-th offset is the length of what comes ahead -/
theorem off_at (hb : ∀ x ∈ A, 0 ≤ x.1 ∧ x.1 < n) {k : Nat} (hk : k < n + 1) : (nth (offL n A) k).toNat = (placesK A k).length := by
  rw [offL_nth A hk, placesK_len A (fun x hx => (hb x hx).1) k]; omega
theorem to_split (h : Rises lessE A) (hb : ∀ x ∈ A, 0 ≤ x.1 ∧ x.1 < n) {k : Nat} (hk : k < n) : ∃ t, toL A = (placesK A k).map (·.2) ++ ((placeE A k).map (·.2) ++ t) := by
  have h1 : placesK A n = A := places_all h hb
  have h2 : ∀ d j, ∃ t, placesK A (j + d) = placesK A j ++ t := by
    intro d
    induction d with
    | zero => intro j; exact ⟨[], by simp⟩
    | succ d ih =>
      intro j
      obtain ⟨t, ht⟩ := ih j
      exact ⟨t ++ placeE A (j + d), by rw [← Nat.add_assoc, placesK_step, ht, List.append_assoc]⟩
  obtain ⟨t, ht⟩ := h2 (n - (k + 1)) (k + 1)
  rw [show k + 1 + (n - (k + 1)) = n by omega, h1] at ht
  refine ⟨t.map (·.2), ?_⟩
  unfold toL
  conv => lhs; rw [ht, placesK_step]
  simp
theorem row_of (h : Rises lessE A) (hb : ∀ x ∈ A, 0 ≤ x.1 ∧ x.1 < n) {k : Nat} (hk : k < n) : rowL (offL n A) (toL A) k = (placeE A k).map (·.2) := by
  obtain ⟨t, ht⟩ := to_split h hb hk
  unfold rowL
  rw [off_at hb (by omega), off_at hb (by omega), placesK_step, List.length_append, ht]
  rw [List.drop_left' (by simp), Nat.add_sub_cancel_left, List.take_left' (by simp)]
theorem rowX_of (h : Rises lessE A) (hb : ∀ x ∈ A, 0 ≤ x.1 ∧ x.1 < n) {k : Nat} (hk : k < n) : rowX (offL n A) (toL A) k = placeE A k := by
  unfold rowX
  rw [row_of h hb hk, List.map_map]
  conv => rhs; rw [← List.map_id (placeE A k)]
  refine List.map_congr_left fun x hx => ?_
  unfold placeE at hx
  rw [List.mem_filter, decide_eq_true_eq] at hx
  simp only [Function.comp, id]
  rw [← hx.2]
theorem pairs_of (h : Rises lessE A) (hb : ∀ x ∈ A, 0 ≤ x.1 ∧ x.1 < n) : pairs (offL n A) (toL A) = A := by
  have : ∀ k, k ≤ n → pairsK (offL n A) (toL A) k = placesK A k := by
    intro k
    induction k with
    | zero => intro _; rfl
    | succ k ih => intro hk; rw [pairsK_step, placesK_step, ih (by omega), rowX_of h hb (by omega)]
  unfold pairs
  rw [offL_len, Nat.add_sub_cancel, this n (Nat.le_refl _), places_all h hb]
theorem half_of (h : Rises lessE A) (hb : ∀ x ∈ A, 0 ≤ x.1 ∧ x.1 < n ∧ 0 ≤ x.2 ∧ x.2 < n) (h1 : 1 ≤ n) (h2 : n ≤ 200) (h3 : A.length ≤ 2000) : halfB (offL n A) (toL A) = true := by
  have hb' : ∀ x ∈ A, 0 ≤ x.1 ∧ x.1 < n := fun x hx => ⟨(hb x hx).1, (hb x hx).2.1⟩
  have e0 : nth (offL n A) 0 = 0 := by
    rw [offL_nth A (by omega), List.countP_eq_zero.2 fun x hx => by have := (hb x hx).1; simp; omega]; rfl
  have en : nth (offL n A) n = A.length := by
    rw [offL_nth A (by omega), List.countP_eq_length.2 fun x hx => by have := (hb x hx).2.1; simp; omega]
  have es : sortB (offL n A) = true := by
    unfold sortB
    rw [List.all_eq_true]
    intro v hv
    rw [List.mem_range, offL_len] at hv
    rw [offL_nth A (by omega), offL_nth A (by omega), count_step]
    simp; omega
  unfold halfB offB
  rw [offL_len, e0, Nat.add_sub_cancel, en, es]
  have : (toL A).length = A.length := by simp [toL]
  rw [this]
  rw [decide_eq_true (by omega : 2 ≤ n + 1), decide_eq_true (by omega : n + 1 ≤ 201), decide_eq_true h3]
  simp only [decide_true, Bool.true_and, List.all_eq_true]
  intro v hv
  rw [List.mem_range] at hv
  rw [okRow_iff, row_of h hb' hv]
  refine ⟨fun x hx => ?_, ?_⟩
  · obtain ⟨y, hy, rfl⟩ := List.mem_map.1 hx
    unfold placeE at hy
    exact (hb y (List.mem_filter.1 hy).1).2.2
  · rw [Rises, List.pairwise_map]
    refine (h.sublist (List.filter_sublist (p := fun x : Int × Int => decide (x.1 = (v:Int))))).imp_of_mem fun {a b} ha hb hab => ?_
    have ha := List.mem_filter.1 ha
    have hb := List.mem_filter.1 hb
    rw [decide_eq_true_eq] at ha hb
    rw [lessE_iff] at hab
    simp only [ltI, decide_eq_true_eq]
    omega
end
theorem mem_row_of {n : Nat} {A : List (Int × Int)} (h : Rises lessE A) (hb : ∀ x ∈ A, 0 ≤ x.1 ∧ x.1 < n) {k : Nat} (hk : k < n) {y : Int} : y ∈ rowL (offL n A) (toL A) k ↔ ((k:Int), y) ∈ A := by
  rw [row_of h hb hk, List.mem_map]
  unfold placeE
  constructor
  · rintro ⟨x, hx, rfl⟩
    rw [List.mem_filter, decide_eq_true_eq] at hx
    rw [← hx.2]; exact hx.1
  · intro hx; exact ⟨_, List.mem_filter.2 ⟨hx, by simp⟩, rfl⟩
theorem turnE_mem {E : List (Int × Int)} {x : Int × Int} : x ∈ turnE E ↔ swapE x ∈ E := by
  unfold turnE
  rw [putAll_mem stoE, List.mem_map]
  constructor
  · rintro ⟨y, hy, rfl⟩; exact hy
  · intro h; exact ⟨_, h, rfl⟩
theorem turnE_rises (E : List (Int × Int)) : Rises lessE (turnE E) := putAll_rises stoE _
/-- what is made is right -/
theorem check_of {n : Nat} {A : List (Int × Int)} (h : Rises lessE A) (hb : ∀ x ∈ A, 0 ≤ x.1 ∧ x.1 < n ∧ 0 ≤ x.2 ∧ x.2 < n) (h1 : 1 ≤ n) (h2 : n ≤ 200) (h3 : A.length ≤ 2000) :
    checkR (offL n A) (toL A) (offL n (turnE A)) (toL (turnE A)) = true := by
  have hb' : ∀ x ∈ A, 0 ≤ x.1 ∧ x.1 < n := fun x hx => ⟨(hb x hx).1, (hb x hx).2.1⟩
  have hbt : ∀ x ∈ turnE A, 0 ≤ x.1 ∧ x.1 < n ∧ 0 ≤ x.2 ∧ x.2 < n := fun x hx => by
    have := hb _ (turnE_mem.1 hx)
    unfold swapE at this
    simp only at this
    omega
  have hbt' : ∀ x ∈ turnE A, 0 ≤ x.1 ∧ x.1 < n := fun x hx => ⟨(hbt x hx).1, (hbt x hx).2.1⟩
  have hnd : A.Nodup := h.imp fun {a b} hab e => by subst e; rw [lessE_iff] at hab; omega
  have hlen : (turnE A).length = A.length := by
    refine Nat.le_antisymm ?_ ?_
    · have := putAll_len lessE (A.map swapE); rw [List.length_map] at this; exact this
    · have hnt : (turnE A).Nodup := (turnE_rises A).imp fun {a b} hab e => by subst e; rw [lessE_iff] at hab; omega
      have : A.Nodup := hnd
      have h4 := nodup_le (m := (turnE A).map swapE) hnd fun x hx => List.mem_map.2 ⟨swapE x, turnE_mem.2 (by rw [swapE_swapE]; exact hx), swapE_swapE x⟩
      rwa [List.length_map] at h4
  unfold checkR
  rw [half_of h hb h1 h2 h3, half_of (turnE_rises A) hbt h1 h2 (by omega), pairs_of h hb', offL_len, offL_len]
  have e1 : (toL A).length = (toL (turnE A)).length := by simp [toL, hlen]
  rw [decide_eq_true e1]
  simp only [decide_true, Bool.true_and, List.all_eq_true]
  intro x hx
  rw [inB_iff]
  have hx2 := hb x hx
  obtain ⟨u, hu⟩ : ∃ u : Nat, x.2 = (u:Int) := ⟨x.2.toNat, by omega⟩
  rw [hu, Int.toNat_natCast, mem_row_of (turnE_rises A) hbt' (by omega), turnE_mem]
  have : swapE ((u:Int), x.1) = x := by unfold swapE; simp only; rw [← hu]
  rw [this]; exact hx
/-! ### rows that are right tell the same, either way -/
theorem pairs_rises {O T : List Int} (h : halfB O T = true) : ∀ k, k ≤ O.length - 1 → Rises lessE (pairsK O T k)
  | 0, _ => List.Pairwise.nil
  | k + 1, hk => by
    rw [pairsK_step]
    refine List.pairwise_append.2 ⟨pairs_rises h k (by omega), ?_, fun a ha b hb => ?_⟩
    · unfold rowX
      rw [List.pairwise_map]
      refine (row_rises h (by omega)).imp fun {a b} hab => ?_
      rw [lessE_iff]
      simp [ltI] at hab
      right; exact ⟨rfl, hab⟩
    · unfold pairsK rowX at ha
      unfold rowX at hb
      simp only [List.mem_flatMap, List.mem_range, List.mem_map] at ha hb
      obtain ⟨v, h1, y, _, rfl⟩ := ha
      obtain ⟨z, _, rfl⟩ := hb
      rw [lessE_iff]; left; simp only; omega
theorem pairs_count {O T : List Int} (h : halfB O T = true) : (pairs O T).length = T.length := by
  obtain ⟨r1, r2, r3, r4, r5, r6⟩ := offB_parts (halfB_off h)
  have hok := offOk_of (halfB_off h)
  have : ∀ k, k < O.length → (pairsK O T k).length = (nth O k).toNat := by
    intro k
    induction k with
    | zero => intro _; rw [r4]; rfl
    | succ k ih =>
      intro hk
      rw [pairsK_step, List.length_append, ih (by omega)]
      unfold rowX
      rw [List.length_map, rowL_len hok hk]
      have := hok.le k hk
      have := hok.lo k (by omega)
      omega
  unfold pairs
  rw [this _ (by omega), r5]; omega
theorem mem_all {α : Type} [DecidableEq α] {l m : List α} (h : l.Nodup) (hs : ∀ x ∈ l, x ∈ m) (hl : m.length ≤ l.length) {x : α} (hx : x ∈ m) : x ∈ l := by
  by_cases hn : x ∈ l
  · exact hn
  · have h1 := nodup_le (m := m.erase x) h fun y hy => (List.mem_erase_of_ne (fun (e : y = x) => hn (by rw [← e]; exact hy))).2 (hs y hy)
    rw [List.length_erase_of_mem hx] at h1
    have := List.length_pos_of_mem hx
    omega
/-- each pair of the other rows stands in these, turned -/
theorem check_turn {O T R V : List Int} (h : checkR O T R V = true) {x : Int × Int} : x ∈ pairs O T ↔ swapE x ∈ pairs R V := by
  obtain ⟨h1, h2, h3, h4⟩ := checkR_half h
  have hall : ∀ y ∈ pairs O T, swapE y ∈ pairs R V := fun y hy => by
    unfold checkR at h
    simp only [Bool.and_eq_true, List.all_eq_true] at h
    have h5 := h.2 y hy
    rw [inB_iff] at h5
    have hb := pair_bd h3 hy
    exact mem_pairs.2 ⟨y.2.toNat, by omega, by unfold swapE; simp only; omega, h5⟩
  refine ⟨hall x, fun hx => ?_⟩
  have hnd : (pairs O T).Nodup := (pairs_rises h3 _ (Nat.le_refl _)).imp fun {a b} hab e => by subst e; rw [lessE_iff] at hab; omega
  have hnd2 : ((pairs O T).map swapE).Nodup := by
    rw [List.Nodup, List.pairwise_map]
    exact hnd.imp fun {a b} hab e => hab (by have := congrArg swapE e; rwa [swapE_swapE, swapE_swapE] at this)
  have h6 := mem_all hnd2 (fun y hy => by obtain ⟨z, hz, rfl⟩ := List.mem_map.1 hy; exact hall z hz) (by rw [List.length_map, pairs_count h3, pairs_count h4, h2]; exact Nat.le_refl _) hx
  obtain ⟨z, hz, e⟩ := List.mem_map.1 h6
  have : z = x := by have := congrArg swapE e; rwa [swapE_swapE, swapE_swapE] at this
  exact this ▸ hz
theorem row_turn {O T R V : List Int} (h : checkR O T R V = true) {v u : Nat} (hv : v < O.length - 1) (hu : u < O.length - 1) : inB (rowL O T u) v = inB (rowL R V v) u := by
  have h1 := (checkR_half h).1
  rw [Bool.eq_iff_iff, inB_iff, inB_iff]
  have e1 : (v:Int) ∈ rowL O T u ↔ ((u:Int), (v:Int)) ∈ pairs O T := by
    rw [mem_pairs]
    constructor
    · intro h; exact ⟨u, hu, rfl, h⟩
    · rintro ⟨k, _, h2, h3⟩; simp only at h2; have : u = k := by omega
      subst this; exact h3
  have e2 : (u:Int) ∈ rowL R V v ↔ ((v:Int), (u:Int)) ∈ pairs R V := by
    rw [mem_pairs]
    constructor
    · intro h; exact ⟨v, by omega, rfl, h⟩
    · rintro ⟨k, _, h2, h3⟩; simp only at h2; have : v = k := by omega
      subst this; exact h3
  rw [e1, e2, check_turn h]; rfl
end Go.Proofs.Ytkekibnhmfmhmaa
/- Rows that are right: where places lead to, forth and back. -/
namespace Go.Proofs.Ytkekibnhmfmhmaa
open Go Go.RowKit
/-- where a place leads to -/
def nxR (back : Bool) (O T R V : List Int) : Nat → List Int := if back = true then rowL R V else rowL O T
theorem row_in {O T : List Int} (h : halfB O T = true) : InN (rowL O T) (O.length - 1) := by
  intro u hu x hx
  unfold halfB at h
  rw [Bool.and_eq_true] at h
  have := List.all_eq_true.1 h.2 u (List.mem_range.2 hu)
  exact (okRow_iff.1 this).1 x hx
theorem nxR_in {O T R V : List Int} (h : checkR O T R V = true) (back : Bool) : InN (nxR back O T R V) (O.length - 1) := by
  obtain ⟨h1, h2, h3, h4⟩ := checkR_half h
  cases back with
  | false => exact row_in h3
  | true => have := row_in h4; rw [← h1] at this; exact this
theorem nxR_rev {O T R V : List Int} (h : checkR O T R V = true) (back : Bool) : Rev (nxR back O T R V) (nxR (!back) O T R V) (O.length - 1) := by
  have key : ∀ u v : Nat, u < O.length - 1 → v < O.length - 1 → ((v : Int) ∈ rowL O T u ↔ (u : Int) ∈ rowL R V v) := fun u v hu hv => by
    have := row_turn h hv hu
    rw [Bool.eq_iff_iff, inB_iff, inB_iff] at this
    exact this
  cases back with
  | false => exact key
  | true => exact fun u v hu hv => (key v u hv hu).symm
/-- all ways, in a direction -/
def edgD (back : Bool) (O T : List Int) : List (Int × Int) := if back = true then (pairs O T).map swapE else pairs O T
theorem edgD_bd {O T : List Int} (h : halfB O T = true) (back : Bool) : ∀ x ∈ edgD back O T, 0 ≤ x.1 ∧ x.1 < ((O.length - 1 : Nat) : Int) ∧ 0 ≤ x.2 ∧ x.2 < ((O.length - 1 : Nat) : Int) := by
  intro x hx
  cases back with
  | false => exact pair_bd h hx
  | true =>
    obtain ⟨y, hy, rfl⟩ := List.mem_map.1 hx
    have := pair_bd h hy
    exact ⟨this.2.2.1, this.2.2.2, this.1, this.2.1⟩
theorem edgD_mem {O T R V : List Int} (h : checkR O T R V = true) (back : Bool) : ∀ u v : Nat, u < O.length - 1 → v < O.length - 1 → (((u : Int), (v : Int)) ∈ edgD back O T ↔ (v : Int) ∈ nxR back O T R V u) := by
  have key : ∀ u v : Nat, u < O.length - 1 → (((u : Int), (v : Int)) ∈ pairs O T ↔ (v : Int) ∈ rowL O T u) := fun u v hu => by
    rw [mem_pairs]
    constructor
    · rintro ⟨k, h1, h2, h3⟩
      have : u = k := by simp only at h2; omega
      subst this; exact h3
    · intro h1; exact ⟨u, hu, rfl, h1⟩
  intro u v hu hv
  cases back with
  | false => exact key u v hu
  | true =>
    have e : ((u : Int), (v : Int)) ∈ edgD true O T ↔ ((v : Int), (u : Int)) ∈ pairs O T := by
      show _ ∈ (pairs O T).map swapE ↔ _
      rw [List.mem_map]
      constructor
      · rintro ⟨y, hy, e⟩
        unfold swapE at e
        injection e with e1 e2
        rw [← e1, ← e2]; exact hy
      · intro h1; exact ⟨_, h1, rfl⟩
    rw [e, key v u hv]
    exact (nxR_rev h true u v hu hv).symm
theorem row_rises8 {O T R V : List Int} (h : checkR O T R V = true) (back : Bool) {u : Nat} (hu : u < O.length - 1) : Rises ltI (nxR back O T R V u) := by
  obtain ⟨h1, h2, h3, h4⟩ := checkR_half h
  cases back with
  | false => exact row_rises h3 hu
  | true => exact row_rises h4 (by omega)
/-- levels, as the chapter says: a row; the error -/
def levC (ck : Bool) (O : List Int) (s : Int) : Int := if ck = true then (if 0 ≤ s ∧ s < (O.length : Int) - 1 then 0 else 1) else 40
def levR (ck back : Bool) (O T R V : List Int) (s : Int) : List Int := if levC ck O s = 0 then (List.range (O.length - 1)).map fun v => lev (nxR back O T R V) (O.length - 1) s.toNat v else []
end Go.Proofs.Ytkekibnhmfmhmaa
/- The order of places by their ways (chapter 11), in plain Lean. -/
namespace Go.Proofs.Ytkekibnhmfmhmaa
open Go Go.RowKit
/-- more ways first; of as many the lesser place -/
def ltW (a b : Int × Int) : Bool := decide (b.2 < a.2) || (decide (a.2 = b.2) && decide (a.1 < b.1))
theorem ltW_iff {a b : Int × Int} : ltW a b = true ↔ b.2 < a.2 ∨ (a.2 = b.2 ∧ a.1 < b.1) := by
  unfold ltW
  rw [Bool.or_eq_true, Bool.and_eq_true, decide_eq_true_eq, decide_eq_true_eq, decide_eq_true_eq]
theorem ltW_no {a b : Int × Int} : ltW a b = false ↔ ¬ (b.2 < a.2 ∨ (a.2 = b.2 ∧ a.1 < b.1)) := by
  rw [← ltW_iff]; simp
theorem stoW : STO ltW where
  irrefl a := by rw [ltW_no]; omega
  trans a b c h k := by rw [ltW_iff] at *; omega
  tri a b h k := by rw [ltW_no] at *; exact Prod.ext (by omega) (by omega)
/-- how many ways a place has -/
def wayN (O R : List Int) (v : Nat) : Int := nth O (v + 1) - nth O v + nth R (v + 1) - nth R v
/-- places with their ways -/
def waysP (O R : List Int) (n : Nat) : List (Int × Int) := (List.range n).map fun v : Nat => ((v : Int), wayN O R v)
theorem waysP_len (O R : List Int) (n : Nat) : (waysP O R n).length = n := by simp [waysP]
theorem waysP_nodup (O R : List Int) (n : Nat) : (waysP O R n).Nodup := by
  unfold waysP
  refine List.Pairwise.map _ (fun a b h e => h ?_) List.nodup_range
  have := congrArg Prod.fst e
  simp only at this
  omega
theorem waysP_mem {O R : List Int} {n : Nat} {x : Int × Int} : x ∈ waysP O R n ↔ ∃ v : Nat, v < n ∧ x = ((v : Int), wayN O R v) := by
  unfold waysP
  rw [List.mem_map]
  constructor
  · rintro ⟨v, h, rfl⟩; exact ⟨v, List.mem_range.1 h, rfl⟩
  · rintro ⟨v, h, rfl⟩; exact ⟨v, List.mem_range.2 h, rfl⟩
theorem waysP_step (O R : List Int) (n : Nat) : waysP O R (n + 1) = waysP O R n ++ [((n : Int), wayN O R n)] := by
  unfold waysP; rw [List.range_succ, List.map_append]; rfl
/-- what the document says: of each number of ways, the greatest first, the places -/
def byP (O R : List Int) (n k : Nat) : List (Int × Int) := (List.range k).flatMap fun i : Nat => ((List.range n).filter fun v => wayN O R v == 4000 - (i : Int)).map fun v : Nat => ((v : Int), wayN O R v)
def byL (O R : List Int) (n : Nat) : List Int := (byP O R n 4001).map (·.1)
theorem byP_step (O R : List Int) (n k : Nat) : byP O R n (k + 1) = byP O R n k ++ ((List.range n).filter fun v => wayN O R v == 4000 - (k : Int)).map fun v : Nat => ((v : Int), wayN O R v) := by
  unfold byP; rw [List.range_succ, List.flatMap_append]; simp
theorem byP_mem {O R : List Int} {n k : Nat} {x : Int × Int} : x ∈ byP O R n k ↔ ∃ v : Nat, v < n ∧ x = ((v : Int), wayN O R v) ∧ wayN O R v ≤ 4000 ∧ 4000 - k < wayN O R v := by
  unfold byP
  rw [List.mem_flatMap]
  constructor
  · rintro ⟨i, hi, hx⟩
    obtain ⟨v, hv, rfl⟩ := List.mem_map.1 hx
    obtain ⟨h1, h2⟩ := List.mem_filter.1 hv
    have hi' := List.mem_range.1 hi
    have h3 : wayN O R v = 4000 - i := by simpa using h2
    exact ⟨v, List.mem_range.1 h1, rfl, by omega, by omega⟩
  · rintro ⟨v, h1, rfl, h2, h3⟩
    refine ⟨(4000 - wayN O R v).toNat, List.mem_range.2 (by omega), List.mem_map.2 ⟨v, List.mem_filter.2 ⟨List.mem_range.2 h1, ?_⟩, rfl⟩⟩
    simp; omega
theorem byP_rises (O R : List Int) (n : Nat) : ∀ k, Rises ltW (byP O R n k)
  | 0 => by simp [byP]
  | k + 1 => by
    rw [byP_step, Rises, List.pairwise_append]
    refine ⟨byP_rises O R n k, ?_, ?_⟩
    · have h : (List.range n).Pairwise (· < ·) := List.pairwise_lt_range
      refine List.Pairwise.map _ (fun a b (hab : a < b ∧ wayN O R a = wayN O R b) => ?_) (R := fun a b => a < b ∧ wayN O R a = wayN O R b) ?_
      · rw [ltW_iff]; right; simp only; omega
      · have h2 := h.filter (fun v => wayN O R v == 4000 - (k : Int))
        refine h2.imp_of_mem fun {a b} ha hb hab => ⟨hab, ?_⟩
        have e1 : wayN O R a = 4000 - k := by simpa using (List.mem_filter.1 ha).2
        have e2 : wayN O R b = 4000 - k := by simpa using (List.mem_filter.1 hb).2
        omega
    · intro a ha b hb
      obtain ⟨v, _, rfl, _, h1⟩ := byP_mem.1 ha
      obtain ⟨u, hu, rfl⟩ := List.mem_map.1 hb
      have e : wayN O R u = 4000 - k := by simpa using (List.mem_filter.1 hu).2
      rw [ltW_iff]; left; simp only; omega
/-- what rises and holds all places is what the document says -/
theorem by_uniq {O R : List Int} {n : Nat} (hw : ∀ v, v < n → 0 ≤ wayN O R v ∧ wayN O R v ≤ 4000) {out : List (Int × Int)} (h1 : Rises ltW out) (hp : out.Perm (waysP O R n)) : out = byP O R n 4001 := by
  refine rises_uniq stoW _ _ h1 (byP_rises O R n 4001) fun x => ?_
  rw [hp.mem_iff, waysP_mem, byP_mem]
  constructor
  · rintro ⟨v, h, rfl⟩
    have := hw v h
    exact ⟨v, h, rfl, by omega, by omega⟩
  · rintro ⟨v, h, rfl, _⟩; exact ⟨v, h, rfl⟩
end Go.Proofs.Ytkekibnhmfmhmaa
/- The program's heap of places (chapter 11): its methods. -/
namespace Go.Proofs.Ytkekibnhmfmhmaa
open Go Go.RowKit
end Go.Proofs.Ytkekibnhmfmhmaa
/- An own row is small. -/
namespace Go.Proofs.Ytkekibnhmfmhmaa
open Go Go.RowKit
theorem own_sm {w : World} {base : Nat} {e : TypeId} {size : Nat} {q : Option Addr} {n c : Nat} {xs : List Value} (h : w.ownsRow base e size (.slice q n c) n xs) : n ≤ 9223372036854775807 := by
  rcases h.2 with ⟨_, h2⟩ | ⟨g, cap, cur, h1, _, _, h3, h4, _⟩
  · omega
  · unfold maxLen at h4; omega
theorem Sep.rdx {w0 w : World} {Γ : List Pc} (S : Sep w0 w Γ) (i : Nat) {e : TypeId} {size : Nat} {q : Option Addr} {n c : Nat} {xs : List Value} (h : Γ[i]? = some (.own e size q n c xs)) : Rd w size q n xs := Rd.of_own (S.own i h) (own_sm (S.own i h))
end Go.Proofs.Ytkekibnhmfmhmaa
/- The program's heap of places (chapter 11): Push, Pop. -/
namespace Go.Proofs.Ytkekibnhmfmhmaa
open Go Go.RowKit
attribute [local go_sem] Oper.semAt_some
/-- the builtin append, by what it yields -/
theorem operwp_append {P : Program} {o : Oper} {a : Act} {w w' : World} {K : Act → World → Prop} {Q : Exit → Act → World → Prop} (s x : Operand) (t : TypeId) {vs vx v : Value}
    (ho : o.op = .call { callee := .builtin .append, args := #[s, x], argTypes := #[t, t] }) (hs : a.eval s = vs) (hx : a.eval x = vx) (hrun : (Builtin.append_ #[t, t] o.type #[vs, vx]).run P w = .ok v w') (h : K (a.put o.dst v) w') : o.wp P a w K Q := by
  unfold Oper.wp execOp
  simp only [ho, resolve, invoke, builtin, Sem.run_bind, Sem.run_pure, Result.andThen_ok, List.map_toArray, List.map_cons, List.map_nil, hs, hx, hrun]
  exact h
theorem two_set {p0 p1 : Pc} {Γ : List Pc} {j jb : Nat} (h : j ≠ jb) {a b : Pc} (hb : Γ[jb]? = some b) : ((p0 :: p1 :: Γ).set (j + 2) a)[jb + 2]? = some b := by
  rw [List.getElem?_set_ne (by omega)]; exact hb
theorem Sep.alrw {w0 w : World} {Γ : List Pc} (S : Sep w0 w Γ) (cs : Array Value) (e : TypeId) (size n g : Nat) (hg : w.heap.size = g) (hm : n ≤ maxLen) (hs : cs.size = n * size) : Sep w0 (w.alloc (.cells cs e)) (.own e size (some ⟨g, 0, none⟩) n n cs.toList :: Γ) := by
  subst hg
  exact S.fresh (Ext.alloc (Below.refl _ _) _) (World.ownsRow_lit w cs n (Nat.le_refl _) hm hs) (Nat.le_refl _)
theorem Sep.appended {w0 w : World} {Γ : List Pc} (S : Sep w0 w Γ) (j : Nat) (t ty e : TypeId) (i : TypeInfo) (z : Value) (size bytes : Nat) (ht : (Try.prog).underlying t = some (.slice e)) (hi : (Try.prog).info? e = some i) (hz : i.zero = some z)
    (hsize : i.size = size) (hby : i.bytes = bytes) (hzs : z.cells.size = size) (hsz : 0 < size)
    (q : Option Addr) (n cq : Nat) (xs : List Value) (hj : Γ[j]? = some (.own e size q n cq xs)) (A : Option Addr) (m c : Nat) (news : List Value) (hr : Rd w size A m news) (h1 : ∀ u ∈ news, u.oneCell' = true)
    (hbytes : (n + m) * bytes ≤ 140737488355328) (h63 : n + m ≤ 140737488355328) :
    ∃ q' c' w', (Builtin.append_ #[t, t] ty #[.slice q n cq, .slice A m c]).run Try.prog w = .ok (.slice q' (n + m) c') w' ∧ Sep w0 w' (Γ.set j (.own e size q' (n + m) c' (xs ++ news))) := by
  obtain ⟨q', c', w', hrun, ho', hg, hat, _⟩ := run_append_rd (P := Try.prog) w w0.heap.size t ty e i z size bytes ht hi hz hsize hby hzs hsz q n cq xs (S.own j hj) A m c news hr h1 hbytes h63 S.ext.size
  refine ⟨q', c', w', hrun, S.put j hj _ hg (fun k hk => hk) (own_base ho' (Nat.zero_le _)) fun k hk => ?_⟩
  rcases hat with h | h
  · exact .inl (h.symm.trans hk)
  · have : some w.heap.size = some k := h.symm.trans hk
    injection this with this
    exact .inr (by omega)
theorem Sep.cut {w0 w : World} {Γ : List Pc} (S : Sep w0 w Γ) (j : Nat) {e : TypeId} {size n c : Nat} {q : Option Addr} {xs ys : List Value} (k : Nat) (hj : Γ[j]? = some (.own e size q n c (xs ++ ys))) (hk : xs.length = k * size) (hkn : k ≤ n) : Sep w0 w (Γ.set j (.own e size q k c xs)) :=
  S.put j hj _ (row := none) (World.grownBy.refl _ _) (fun _ h => nomatch h) (own_base (own_take (S.own j hj) hk hkn) (Nat.zero_le _)) fun _ hk => .inl hk
end Go.Proofs.Ytkekibnhmfmhmaa
/- A row of the call's own, and what an elder slice of it reads: an append to the row leaves that as it was. -/
namespace Go.Proofs.Ytkekibnhmfmhmaa
open Go Go.RowKit
theorem run_append_keep {P : Program} (w : World) (base : Nat) (t ty e : TypeId) (i : TypeInfo) (z : Value) (size bytes : Nat) (ht : P.underlying t = some (.slice e)) (hi : P.info? e = some i) (hz : i.zero = some z)
    (hsize : i.size = size) (hby : i.bytes = bytes) (hzs : z.cells.size = size) (hsz : 0 < size)
    (q : Option Addr) (n cq : Nat) (xs : List Value) (hown : w.ownsRow base e size (.slice q n cq) n xs)
    (A : Option Addr) (m c : Nat) (news : List Value) (hr : Rd w size A m news) (h1 : ∀ u ∈ news, u.oneCell' = true)
    (hbytes : (n + m) * bytes ≤ 140737488355328) (h63 : n + m ≤ 140737488355328) (hbase : base ≤ w.heap.size) (hm : 0 < m) :
    ∃ q' c' w', (Builtin.append_ #[t, t] ty #[.slice q n cq, .slice A m c]).run P w = .ok (.slice q' (n + m) c') w' ∧ w'.ownsRow base e size (.slice q' (n + m) c') (n + m) (xs ++ news) ∧ w.grownBy w' (blkOf q) ∧
      (blkOf q' = blkOf q ∨ blkOf q' = some w.heap.size) ∧ Rd w' size q n xs := by
  obtain ⟨q', c', w', hrun, ho, hg, hat, _⟩ := run_append_rd (P := P) w base t ty e i z size bytes ht hi hz hsize hby hzs hsz q n cq xs hown A m c news hr h1 hbytes h63 hbase
  refine ⟨q', c', w', hrun, ho, hg, hat, ?_⟩
  by_cases hn0 : n = 0
  · subst hn0
    have hx : xs = [] := List.eq_nil_of_length_eq_zero (by have := hown.1; omega)
    subst hx
    exact Rd.nil _ _ _
  have hxl : xs.length = n * size := hown.1
  obtain ⟨g', hq', _⟩ := own_block ho (by omega)
  rcases hat with hat | hat
  · obtain ⟨g, hq, _⟩ := own_block hown hn0
    have : q' = q := by
      rw [hq', hq] at hat ⊢
      injection hat with hat
      have hat : g' = g := hat
      rw [hat]
    rw [← this]
    have h := (Rd.of_own ho (by omega)).take (k := n) (by omega)
    rwa [List.take_left' hxl] at h
  · have hnews : ∀ (ad : Addr), A = some ad → ∀ j u, news[j]? = some u → w.cell? (ad.add j) = some u := by
      intro ad hA j u hu
      have hj : j < news.length := by
        rcases Nat.lt_or_ge j news.length with h | h
        · exact h
        · rw [List.getElem?_eq_none h] at hu; cases hu
      have had : ad = adr A 0 := by have := hr.ptr.some (by omega); rw [hA] at this ⊢; injection this
      have := hr.cells j (by rw [← hr.len]; exact hj)
      rw [had, adr_add, Nat.zero_add, this, List.getD_eq_getElem?_getD, hu]; rfl
    obtain ⟨ad, hA⟩ : ∃ ad, A = some ad := by rw [hr.ptr.some (by omega)]; exact ⟨_, rfl⟩
    subst hA
    rcases hown.2 with ⟨h2, _⟩ | ⟨g, cap, cur, h2, hbg, hgh, hnc, hcm, hcs, htake⟩
    · injection h2 with h2 h3; exact absurd h3 hn0
    · injection h2 with h2 _ h4
      subst h2 h4
      have hglt : g < w.heap.size := by
        rcases Nat.lt_or_ge g w.heap.size with h | h
        · exact h
        · rw [Array.getElem?_eq_none h] at hgh; cases hgh
      by_cases hroom : n + m ≤ cq
      · have hfit : n * i.size + news.length ≤ cur.size := by rw [hr.len, hcs, hsize, ← Nat.add_mul]; exact Nat.mul_le_mul_right _ hroom
        have hr2 := run_append_room (P := P) w t ty e i ht hi g n cq cur hgh ad m c news (by rw [hsize]; exact hr.len) (hnews ad rfl) h1 hroom hfit
        rw [hr2] at hrun
        injection hrun with h5 _
        injection h5 with h5 _ _
        rw [← h5] at hat
        have hat : some g = some w.heap.size := hat
        injection hat with hat
        omega
      · have holds : ∀ j u, xs[j]? = some u → w.cell? ((⟨g, 0, none⟩ : Addr).add j) = some u := hown.cells (g := g) rfl
        have hr2 := run_append_grow (P := P) w t ty e i z ht hi hz ⟨g, 0, none⟩ n cq xs (by rw [hsize]; exact hxl) holds ad m c news (by rw [hsize]; exact hr.len) (hnews ad rfl) (by omega) (by omega) (growslice_fits (by omega) (by rw [hby]; exact hbytes))
        rw [hr2] at hrun
        injection hrun with _ h6
        rw [← h6]
        exact (Rd.of_own hown (by omega)).ext (Ext.alloc (Below.refl _ _).drew _)
/-- what an elder slice reads hangs on its block alone -/
theorem Rd.loc {w w' : World} {size n : Nat} {p : Option Addr} {xs : List Value} (h : Rd w size p n xs) (hk : ∀ k, blkOf p = some k → w'.heap[k]? = w.heap[k]?) : Rd w' size p n xs := by
  refine ⟨h.len, h.ptr, h.small, fun j hj => ?_⟩
  have h1 := h.cells j hj
  rcases h.ptr with h0 | ⟨b, o, rfl⟩
  · subst h0; omega
  · have h2 := hk b rfl
    rw [← h1]
    show w'.cell? ⟨b, o + j, none⟩ = w.cell? ⟨b, o + j, none⟩
    simp only [World.cell?, h2]
theorem Rd.blk_lt {w : World} {size n : Nat} {p : Option Addr} {xs : List Value} (h : Rd w size p n xs) (hs : 0 < n * size) {k : Nat} (hk : blkOf p = some k) : k < w.heap.size := by
  rcases h.ptr with h0 | ⟨b, o, rfl⟩
  · subst h0; omega
  · have h1 := h.cells 0 hs
    have h2 := World.block_lt_of_cell? w _ h1
    have h3 : b = k := by injection hk
    subst h3
    exact h2
/-- an own row, and what the elder slice p0 of n0 reads -/
def Pc.ownS (e : TypeId) (size : Nat) (q : Option Addr) (n c : Nat) (xs : List Value) (p0 : Option Addr) (n0 : Nat) (ys : List Value) : Pc :=
  ⟨fun k => blkOf q = some k ∨ (0 < n0 * size ∧ blkOf p0 = some k), fun w => w.ownsRow 0 e size (.slice q n c) n xs ∧ Rd w size p0 n0 ys,
   fun w h k hk => by
    rcases hk with hk | ⟨h0, hk⟩
    · exact (own_lt h.1 hk).2
    · exact h.2.blk_lt h0 hk,
   fun w w' h hk => by
    refine ⟨own_loc h.1 fun k hb => hk k (.inl hb), ?_⟩
    by_cases h0 : 0 < n0 * size
    · exact h.2.loc fun k hb => hk k (.inr ⟨h0, hb⟩)
    · have hn : ∀ j, j < n0 * size → False := fun j hj => by omega
      exact ⟨h.2.len, h.2.ptr, h.2.small, fun j hj => (hn j hj).elim⟩⟩
theorem Sep.ownS {w0 w : World} {Γ : List Pc} (S : Sep w0 w Γ) (j : Nat) {e : TypeId} {size : Nat} {q p0 : Option Addr} {n c n0 : Nat} {xs ys : List Value} (hj : Γ[j]? = some (.ownS e size q n c xs p0 n0 ys)) : w.ownsRow 0 e size (.slice q n c) n xs ∧ Rd w size p0 n0 ys := S.all _ (List.mem_of_getElem? hj)
/-- an append to such a row -/
theorem Sep.appendedS {w0 w : World} {Γ : List Pc} (S : Sep w0 w Γ) (j : Nat) (t ty e : TypeId) (i : TypeInfo) (z : Value) (size bytes : Nat) (ht : (Try.prog).underlying t = some (.slice e)) (hi : (Try.prog).info? e = some i) (hz : i.zero = some z)
    (hsize : i.size = size) (hby : i.bytes = bytes) (hzs : z.cells.size = size) (hsz : 0 < size)
    (q : Option Addr) (n cq : Nat) (xs : List Value) (hj : Γ[j]? = some (.ownS e size q n cq xs q n xs)) (A : Option Addr) (m c : Nat) (news : List Value) (hr : Rd w size A m news) (h1 : ∀ u ∈ news, u.oneCell' = true)
    (hbytes : (n + m) * bytes ≤ 140737488355328) (h63 : n + m ≤ 140737488355328) (hm : 0 < m) :
    ∃ q' c' w', (Builtin.append_ #[t, t] ty #[.slice q n cq, .slice A m c]).run Try.prog w = .ok (.slice q' (n + m) c') w' ∧ Sep w0 w' (Γ.set j (.ownS e size q' (n + m) c' (xs ++ news) q n xs)) := by
  obtain ⟨q', c', w', hrun, ho', hg, hat, hk⟩ := run_append_keep (P := Try.prog) w 0 t ty e i z size bytes ht hi hz hsize hby hzs hsz q n cq xs (S.ownS j hj).1 A m c news hr h1 hbytes h63 (Nat.zero_le _) hm
  refine ⟨q', c', w', hrun, S.put j hj _ hg (fun k hk => .inl hk) ⟨ho', hk⟩ fun k hk => ?_⟩
  rcases hk with hk | ⟨_, hk⟩
  · rcases hat with h | h
    · exact .inl (.inl (h.symm.trans hk))
    · have : some w.heap.size = some k := h.symm.trans hk
      injection this with this
      exact .inr (by omega)
  · exact .inl (.inl hk)
/-- pieces are weakened, each for itself -/
theorem Sep.weak {w0 w : World} {Γ Δ : List Pc} (S : Sep w0 w Γ) (hl : Δ.length = Γ.length) (h : ∀ (i : Nat) p q, Γ[i]? = some p → Δ[i]? = some q → p.holds w → q.holds w ∧ ∀ k, q.foot k → p.foot k) : Sep w0 w Δ := by
  have key : ∀ (i : Nat) (q : Pc), Δ[i]? = some q → ∃ p, Γ[i]? = some p ∧ p ∈ Γ ∧ q.holds w ∧ ∀ k, q.foot k → p.foot k := fun i q hq => by
    have hi := (List.getElem?_eq_some_iff.1 hq).1
    have hp : Γ[i]? = some Γ[i] := List.getElem?_eq_getElem (by omega)
    have hm : Γ[i] ∈ Γ := List.getElem_mem _
    exact ⟨_, hp, hm, h i _ q hp hq (S.all _ hm)⟩
  refine ⟨S.ext, fun q hq => ?_, fun q hq k hk => ?_, ?_⟩
  · obtain ⟨i, hi, rfl⟩ := List.mem_iff_getElem.1 hq
    obtain ⟨p, _, _, h1, _⟩ := key i _ (List.getElem?_eq_getElem hi)
    exact h1
  · obtain ⟨i, hi, rfl⟩ := List.mem_iff_getElem.1 hq
    obtain ⟨p, _, hm, _, h2⟩ := key i _ (List.getElem?_eq_getElem hi)
    exact S.new p hm k (h2 k hk)
  · rw [List.pairwise_iff_getElem]
    intro a b ha hb hab k hka hkb
    obtain ⟨p, hp, _, _, h2⟩ := key a _ (List.getElem?_eq_getElem ha)
    obtain ⟨p', hp', _, _, h2'⟩ := key b _ (List.getElem?_eq_getElem hb)
    exact S.apart_at hp hp' (by omega) (h2 k hka) (h2' k hkb)
end Go.Proofs.Ytkekibnhmfmhmaa
/- Chapter 18: meet. -/
namespace Go.Proofs.Ytkekibnhmfmhmaa
open Go Go.RowKit Go.Maps
/-- a map whose entries are known, a piece -/
def Pc.mapR (b : Nat) (es : Array MapEntry) (clock : Nat) : Pc :=
  ⟨fun i => i = b, fun w => w.heap[b]? = some (.map es clock), fun w h i hi => by subst hi; exact (Array.getElem?_eq_some_iff.1 h).1, fun _ _ h hi => (hi b rfl).trans h⟩
theorem Sep.head {w0 w : World} {Γ : List Pc} {p q : Pc} (S : Sep w0 w (p :: Γ)) (h : q.holds w) (hf : ∀ k, q.foot k → p.foot k) : Sep w0 w (q :: Γ) :=
  S.weak rfl fun i p' q' h1 h2 h3 => by
    cases i with
    | zero =>
      simp at h1 h2
      subst h1 h2
      exact ⟨h, hf⟩
    | succ i =>
      simp at h1 h2
      rw [h1] at h2
      injection h2 with h2
      subst h2
      exact ⟨h3, fun k hk => hk⟩
theorem on_step {g : Int → Option I6} {left : Int → Bool} {x u : Int} (h : ((g u).isSome && !(left u && u != x)) = true) : u = x ∨ ((g u).isSome && !left u) = true := by
  by_cases e : u = x
  · exact .inl e
  · have e2 : (u != x) = true := by simpa using e
    rw [e2, Bool.and_true] at h
    exact .inr h
theorem hbw {w0 w : World} {p : Pc} {Γ : List Pc} {b : Nat} {es : Array MapEntry} {clock : Nat} (S : Sep w0 w (p :: .mapR b es clock :: Γ)) : w.heap[b]? = some (.map es clock) := S.all (.mapR b es clock) (by simp)
theorem meetP_start (f g : Int → Option I6) : MeetP f g (fun v => (g v).isSome && !(g v).isSome) false 0 := ⟨fun _ => ⟨rfl, fun v _ _ h => (by cases hg : g v <;> simp [hg] at h)⟩, fun h => (by cases h)⟩
theorem least_bd {l : List Sq} {dir : Int} {f : Int → Option I6} (h : Least l dir f) (hb : ∀ x ∈ l, -1000000 ≤ x.d ∧ x.d ≤ 1000000) {v : Int} {d : I6} (hf : f v = some d) : -1000000 ≤ d.1 ∧ d.1 ≤ 1000000 := by
  obtain ⟨x, hx, _, _, h3⟩ := (h.2 v d hf).1
  rw [← h3]; exact hb x hx
set_option maxRecDepth 100000 in
set_option maxHeartbeats 4000000 in
theorem meetPG (p : Option Addr) (n c : Nat) (l : List Sq) (w : World) (hl : Rd w 4 p n (encQ l)) (hi : ∀ x ∈ l, I64 x.v ∧ I64 x.d) (hb : ∀ x ∈ l, -1000000 ≤ x.d ∧ x.d ≤ 1000000) (hn : n ≤ 1000000) :
    Calls Try.prog 30 #[.slice p n c] w fun e w' => ∃ b d, e = .returned (.agg #[.bool b, .int .i64 d, .slice none 0 0]) ∧ Ext w w' ∧ MeetA l b d := by
  have HLE := Lib.hid (fun dir W (h : Ext w W) => leastG p n c l dir W (hl.ext h) hi hn)
  have HBD := Lib.hid hb
  have S0 := Lib.hid (((Sep.start w).al #[.bool false, .int .i64 0, .slice none 0 0] 38 w.heap.size rfl).al #[.bool false, .int .i64 0, .slice none 0 0] 38 (w.heap.size + 1) (by simp))
  clear hl hi hb
  go_enter Try.func30, Try.ntmps30
  go_wp2_with (first
    | (at_range; go_must (refine wpList_range_sep rfl _ _ rfl Try.underlying3 Try.underlying70 rfl HB2.out HF2.out HS2.out HFN.out S2.out w2.heap.size rfl ?_; intro w3 since seen c0 cnt S' R hsz he; have S3 := Lib.hid S'; have HR := Lib.hid R; clear S' R he hsz))
    | (go_at_call 31; have _t := S1; go_must (refine (HLE.out _ _ S1.out.ext).mono ?_; rintro e w2 ⟨b2, m2, g, hm2, rfl, Z, hg⟩; have HG := Lib.hid hg; have S2' := S1.out.comp Z; obtain ⟨es, clock, hx1, hx2, hx3, hx4⟩ := (S2'.map 0 rfl).raw; have HB2 := Lib.hid hx1; have HF2 := Lib.hid hx2; have HS2 := Lib.hid hx3; have HFN := Lib.hid hx4; have S2 := Lib.hid (Sep.head (q := Pc.mapR b2 es clock) S2' hx1 fun k h => h); clear S2' Z hg hx1 hx2 hx3 hx4))
    | (go_at_call 31; go_must (refine (HLE.out _ _ S0.out.ext).mono ?_; rintro e w1 ⟨b1, m1, f, hm1, rfl, Z, hf⟩; have HF := Lib.hid hf; have S1 := Lib.hid (S0.out.comp Z); clear Z hf)))
  go_frame
  go_loopw [5, 6, 7, 8] (fun _ _ _ _ wr => ∃ bb dd since seen c0 cnt left, Sep w wr [.iter w2.heap.size b2 since seen c0, .mapR b2 es clock, .map Try.prog 3 EI6 b1 m1 f, .blk (w.heap.size + 1) 38 #[.bool bb, .int .i64 dd, .slice none 0 0], .blk w.heap.size 38 #[.bool false, .int .i64 0, .slice none 0 0]] ∧ Hid (Rng Try.prog 3 EI6 es clock since seen c0 m2 g left cnt) ∧ Hid (MeetP f g (fun v => (g v).isSome && !left v) bb dd)) (fun _ _ _ _ wr => wr.rangeLeft b2 w2.heap.size)
  case atStart => exact ⟨false, 0, since, seen, c0, cnt, _, S3.out, HR, meetP_start f g⟩
  case round =>
    clear S3 HR since seen c0 cnt
    obtain ⟨bb, dd, since, seen, c0, cnt, left, S, HR, HM⟩ := hrel
    have HBW : Hid (wr.heap[b2]? = some (.map es clock)) := S.all _ (List.mem_of_getElem? (show _ = some (Pc.mapR b2 es clock) from (rfl : _[1]? = _)))
    have SH := Lib.hid S; clear S
    go_wp2_with (at_next; go_must (refine wpList_next_sep rfl _ rfl Try.underlying3 rfl HBW.out SH.out 0 rfl HR.out ?_ ?_))
    · intro hall
      have HA : Hid (MeetA l bb dd) := meetP_end HF.out HG.out (fun v hv => by simp [hv, hall v]) HM.out
      clear hall
      have z3 := (SH.out.blk 3 rfl).lt
      have c30 : wr.cell? ⟨w.heap.size + 1, 0, none⟩ = some (.bool bb) := (SH.out.blk 3 rfl).cell 0
      have c31 : wr.cell? ⟨w.heap.size + 1, 1, none⟩ = some (.int .i64 dd) := (SH.out.blk 3 rfl).cell 1
      have c32 : wr.cell? ⟨w.heap.size + 1, 2, none⟩ = some (.slice none 0 0) := (SH.out.blk 3 rfl).cell 2
      have z4 := (SH.out.blk 4 rfl).lt
      have c40 : wr.cell? ⟨w.heap.size, 0, none⟩ = some (.bool false) := (SH.out.blk 4 rfl).cell 0
      have c41 : wr.cell? ⟨w.heap.size, 1, none⟩ = some (.int .i64 0) := (SH.out.blk 4 rfl).cell 1
      have c42 : wr.cell? ⟨w.heap.size, 2, none⟩ = some (.slice none 0 0) := (SH.out.blk 4 rfl).cell 2
      have r0 := (SH.out.blk 4 rfl).frozen 0
      have r1 := (SH.out.blk 4 rfl).frozen 1
      have r2 := (SH.out.blk 4 rfl).frozen 2
      have S9 := Lib.hid (((SH.out.set 4 rfl 0 (.bool bb)).set 4 rfl 1 (.int .i64 dd)).set 4 rfl 2 (.slice none 0 0))
      have d0 := (S9.out.blk 4 rfl).cell 0
      have d1 := (S9.out.blk 4 rfl).cell 1
      have d2 := (S9.out.blk 4 rfl).cell 2
      go_wp2
      exact bodyPost_ret (v := .agg #[.bool bb, .int .i64 dd, .slice none 0 0]) (by simp [results, Try.results30, go_sem, d0, d1, d2, Try.sizeOf38, Try.isAgg38]) rfl ⟨bb, dd, rfl, S9.out.ext, HA.out⟩
    · intro t w1 since' seen' c0' cnt' hx hl hfx S1 R1 hc hsz hb1 hg1 hen
      obtain ⟨x, vv⟩ := t
      obtain ⟨v, hvw⟩ := vv
      have hen2 : (Instr.entry (.pointer (some ⟨w2.heap.size, 0, none⟩))).run Try.prog w1 = .ok (.tuple #[.int .i64 x, .int .i64 v]) w1 := hen
      have hgx : g x = some ⟨v, hvw⟩ := hfx
      have hx' : I64 x := hx
      have hm1 : wr.rangeLeft b2 w2.heap.size = cnt := rng_left HBW.out (SH.out.iter 0 rfl) HR.out
      have hbv := least_bd HG.out HBD.out hgx
      have q1 : -1000000 ≤ v := hbv.1
      have q2 : v ≤ 1000000 := hbv.2
      have HON : Hid (∀ u, ((g u).isSome && !(left u && u != x)) = true → u = x ∨ ((g u).isSome && !left u) = true) := fun u h => on_step h
      have HGX := Lib.hid hgx
      have HM1 := Lib.hid hm1
      have HC := Lib.hid hc
      have z3 := (S1.blk 3 rfl).lt
      have c30 : w1.cell? ⟨w.heap.size + 1, 0, none⟩ = some (.bool bb) := (S1.blk 3 rfl).cell 0
      have c31 : w1.cell? ⟨w.heap.size + 1, 1, none⟩ = some (.int .i64 dd) := (S1.blk 3 rfl).cell 1
      have c32 : w1.cell? ⟨w.heap.size + 1, 2, none⟩ = some (.slice none 0 0) := (S1.blk 3 rfl).cell 2
      have r0 := (S1.blk 3 rfl).frozen 0
      have r1 := (S1.blk 3 rfl).frozen 1
      have r2 := (S1.blk 3 rfl).frozen 2
      have k1 := (S1.map 2 rfl).lookup_ok (t := 70) Try.underlying3 Try.underlying70 hx'
      have SH1 := Lib.hid S1; clear S1
      have HR1 := Lib.hid R1; clear R1
      clear hg1 hsz HBW hen hb1 hc hm1 hgx hfx hx hx' hl hbv
      cases hf : f x with
      | none =>
        have k2 : (Instr.lookup 70 (.map (some b1)) (.int .i64 x) true).run Try.prog w1 = .ok (.tuple #[.int .i64 0, .bool false]) w1 := by rw [hf] at k1; exact k1
        have HM2 : Hid (MeetP f g (fun u => (g u).isSome && !(left u && u != x)) bb dd) := meetP_skip HM.out HON.out hf
        clear k1 hf
        go_wp2
        go_roundw
        case rel => exact ⟨_, _, since', seen', c0', cnt', _, SH1.out, HR1.out, HM2.out⟩
        case measure => rw [HM1.out, rng_left (hbw SH1.out) (SH1.out.iter 0 rfl) HR1.out]; exact HC.out
      | some yy =>
        obtain ⟨y, hyw⟩ := yy
        have k2 : (Instr.lookup 70 (.map (some b1)) (.int .i64 x) true).run Try.prog w1 = .ok (.tuple #[.int .i64 y, .bool true]) w1 := by rw [hf] at k1; exact k1
        have hby := least_bd HF.out HBD.out hf
        have q3 : -1000000 ≤ y := hby.1
        have q4 : y ≤ 1000000 := hby.2
        have HFX := Lib.hid hf
        clear k1 hf hby
        cases bb with
        | false =>
          have HM2 : Hid (MeetP f g (fun u => (g u).isSome && !(left u && u != x)) true (v + y)) := meetP_put HM.out HON.out HFX.out HGX.out (fun h => by cases h)
          go_wp2
          have S5 := Lib.hid (((SH1.out.set 3 rfl 0 (.bool true)).set 3 rfl 1 (.int .i64 (v + y))).set 3 rfl 2 (.slice none 0 0))
          go_roundw
          case rel => exact ⟨true, v + y, since', seen', c0', cnt', _, S5.out, HR1.out, HM2.out⟩
          case measure => rw [HM1.out, rng_left (hbw S5.out) (S5.out.iter 0 rfl) HR1.out]; exact HC.out
        | true =>
          by_cases hd : v + y < dd
          · have HM2 : Hid (MeetP f g (fun u => (g u).isSome && !(left u && u != x)) true (v + y)) := meetP_put HM.out HON.out HFX.out HGX.out (fun _ => by show v + y ≤ dd; omega)
            have e1 : decide (v + y < dd) = true := by simpa using hd
            clear hd
            go_wp2
            have S5 := Lib.hid (((SH1.out.set 3 rfl 0 (.bool true)).set 3 rfl 1 (.int .i64 (v + y))).set 3 rfl 2 (.slice none 0 0))
            go_roundw
            case rel => exact ⟨true, v + y, since', seen', c0', cnt', _, S5.out, HR1.out, HM2.out⟩
            case measure => rw [HM1.out, rng_left (hbw S5.out) (S5.out.iter 0 rfl) HR1.out]; exact HC.out
          · have HM2 : Hid (MeetP f g (fun u => (g u).isSome && !(left u && u != x)) true dd) := meetP_keep HM.out HON.out HFX.out HGX.out (by show dd ≤ v + y; omega)
            have e1 : decide (v + y < dd) = false := by simpa using hd
            clear hd
            go_wp2
            go_roundw
            case rel => exact ⟨_, _, since', seen', c0', cnt', _, SH1.out, HR1.out, HM2.out⟩
            case measure => rw [HM1.out, rng_left (hbw SH1.out) (SH1.out.iter 0 rfl) HR1.out]; exact HC.out
end Go.Proofs.Ytkekibnhmfmhmaa
/- Chapter 18: what may be asked, what it starts with, how it goes on; in plain Lean. No program in sight. -/
namespace Go.Proofs.Ytkekibnhmfmhmaa
open Go Go.RowKit
def plcB (v n : Int) : Bool := decide (0 ≤ v) && decide (v < n)
theorem plcB_iff {v n : Int} : plcB v n = true ↔ 0 ≤ v ∧ v < n := by
  unfold plcB
  rw [Bool.and_eq_true, decide_eq_true_eq, decide_eq_true_eq]
theorem plcB_no {v n : Int} : plcB v n = false ↔ ¬ (0 ≤ v ∧ v < n) := by
  rw [← plcB_iff, Bool.not_eq_true]
def manyB (ws : List ByteArray) : Bool := decide (1 ≤ ws.length) && decide (ws.length ≤ 8) && ws.all wordB
def numB (rad most : Int) : Bool := decide (0 ≤ rad) && decide (rad ≤ 200) && decide (1 ≤ most) && decide (most ≤ 100)
/-- may a query be, of n places? -/
def okQ (k f t : Int) (ws : List ByteArray) (rad most n : Int) : Bool :=
  if k = 1 ∨ k = 2 then plcB f n && plcB t n else if k = 3 then plcB f n && manyB ws && numB rad most else false
def chkQ (k f t : Int) (ws : List ByteArray) (rad most n : Int) : Int := if okQ k f t ws rad most n = true then 0 else 180
theorem chkQ_yes {k f t rad most n : Int} {ws : List ByteArray} (h : okQ k f t ws rad most n = true) : chkQ k f t ws rad most n = 0 := by unfold chkQ; rw [if_pos h]
theorem chkQ_no {k f t rad most n : Int} {ws : List ByteArray} (h : okQ k f t ws rad most n = false) : chkQ k f t ws rad most n = 180 := by unfold chkQ; rw [h]; rfl
theorem chkQ_zero {k f t rad most n : Int} {ws : List ByteArray} : chkQ k f t ws rad most n = 0 ↔ okQ k f t ws rad most n = true := by
  unfold chkQ
  cases okQ k f t ws rad most n <;> simp
theorem okQ_12 {k f t rad most n : Int} {ws : List ByteArray} (h : k = 1 ∨ k = 2) : okQ k f t ws rad most n = (plcB f n && plcB t n) := by unfold okQ; rw [if_pos h]
theorem okQ_3 {f t rad most n : Int} {ws : List ByteArray} : okQ 3 f t ws rad most n = (plcB f n && manyB ws && numB rad most) := by unfold okQ; rw [if_neg (by omega), if_pos rfl]
theorem okQ_else {k f t rad most n : Int} {ws : List ByteArray} (h : ¬ (k = 1 ∨ k = 2)) (h3 : k ≠ 3) : okQ k f t ws rad most n = false := by unfold okQ; rw [if_neg h, if_neg h3]
/-- messages that a query starts with -/
def startQ (k f t s : Int) : List Sq := if k = 1 then [⟨s, 0, f, 0⟩, ⟨s, 1, t, 0⟩] else if k = 2 ∨ k = 3 then [⟨s, 0, f, 0⟩] else []
/-- the error of going on -/
def nxC (ck b : Bool) (x : Sq) : Int := if ck = false then 40 else if b = true ∧ (x.r = 0 ∨ x.r = 1) ∧ 0 ≤ x.d ∧ x.d ≤ 200 then 0 else 1
/-- messages that a query goes on with -/
def nxL (k rad : Int) (e : Int) (x : Sq) (L : List Int) : List Sq := if e = 0 ∧ ¬ (k = 3 ∧ rad ≤ x.d) then L.map (fun v => ⟨x.s, x.r, v, x.d + 1⟩) else []
theorem nxL_no {k rad e : Int} {x : Sq} {L : List Int} (h : e ≠ 0 ∨ (k = 3 ∧ rad ≤ x.d)) : nxL k rad e x L = [] := by
  unfold nxL
  rw [if_neg (fun h2 => h.elim (fun h3 => h3 h2.1) h2.2)]
theorem nxL_yes {k rad e : Int} {x : Sq} {L : List Int} (h : e = 0) (h2 : ¬ (k = 3 ∧ rad ≤ x.d)) : nxL k rad e x L = L.map (fun v => ⟨x.s, x.r, v, x.d + 1⟩) := by
  unfold nxL
  rw [if_pos ⟨h, h2⟩]
theorem nxC_40 {b : Bool} {x : Sq} : nxC false b x = 40 := rfl
theorem nxC_1 {b : Bool} {x : Sq} (h : ¬ (b = true ∧ (x.r = 0 ∨ x.r = 1) ∧ 0 ≤ x.d ∧ x.d ≤ 200)) : nxC true b x = 1 := by unfold nxC; rw [if_neg (by simp), if_neg h]
theorem nxC_0 {b : Bool} {x : Sq} (h : b = true ∧ (x.r = 0 ∨ x.r = 1) ∧ 0 ≤ x.d ∧ x.d ≤ 200) : nxC true b x = 0 := by unfold nxC; rw [if_neg (by simp), if_pos h]
/-- is there a message of a direction? -/
def hasD (M : List Sq) (r : Int) : Bool := M.any fun x => x.r == r
/-- does a query of the kind 2 find its place? -/
def atS (l : List Sq) (t : Int) : Bool := l.any fun x => x.r == 0 && x.v == t
theorem atS_iff {l : List Sq} {t : Int} : atS l t = true ↔ ∃ x ∈ l, x.r = 0 ∧ x.v = t := by
  unfold atS
  rw [List.any_eq_true]
  constructor
  · rintro ⟨x, h1, h2⟩; simp at h2; exact ⟨x, h1, h2⟩
  · rintro ⟨x, h1, h2, h3⟩; exact ⟨x, h1, by simp [h2, h3]⟩
/-- the hits of states whose places are among those of words -/
def hitS (l : List Sq) (P : List Int) : List (Int × Int) := (l.filter fun x => x.r == 0 && P.contains x.v).map fun x => (x.v, x.d)
theorem hitS_snoc (l : List Sq) (P : List Int) (x : Sq) : hitS (l ++ [x]) P = if (x.r == 0 && P.contains x.v) = true then hitS l P ++ [(x.v, x.d)] else hitS l P := by
  unfold hitS
  rw [List.filter_append, List.map_append]
  by_cases h : (x.r == 0 && P.contains x.v) = true
  · rw [if_pos h]; simp only [List.filter_cons, h, if_true, List.filter_nil]; rfl
  · rw [if_neg h]; simp only [List.filter_cons, h, List.filter_nil]; simp
theorem hitS_len (l : List Sq) (P : List Int) : (hitS l P).length ≤ l.length := by
  unfold hitS
  rw [List.length_map]
  exact List.length_filter_le _ _
theorem hitS_mem {l : List Sq} {P : List Int} {h : Int × Int} (hh : h ∈ hitS l P) : ∃ x ∈ l, x.r = 0 ∧ x.v = h.1 ∧ x.d = h.2 := by
  unfold hitS at hh
  obtain ⟨x, hx, rfl⟩ := List.mem_map.1 hh
  obtain ⟨h1, h2⟩ := List.mem_filter.1 hx
  simp only [Bool.and_eq_true, beq_iff_eq] at h2
  exact ⟨x, h1, h2.1, rfl, rfl⟩
end Go.Proofs.Ytkekibnhmfmhmaa
