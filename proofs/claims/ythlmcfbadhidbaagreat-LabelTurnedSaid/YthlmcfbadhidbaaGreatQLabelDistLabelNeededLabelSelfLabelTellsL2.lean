/- Texts of this claim, one behind the other: Spec4, Rng, It4, It4b, Half4, Half4b, Chk4, Chk4b, Out4, Row4r, Half4r, Chk4r, Out4r, Eq4, PlainR, Laid4, G2, G9, G11, GT, Big2, G10, Mk4, Ex4, Edg4, Edg4r. -/
import Derived.RangeFuncNested
import Derived.RangeFuncBound
import Derived.RangeFuncCalls
import Derived.RangeFuncLeaves
import Derived.Sort.QuietThIn
import Derived.OwnWalkIn
import Derived.TacticsInMore
import Derived.LoopNIn
import Derived.LoopIn
import Derived.Test.YthlmcfbadhidbaaGreatLay
import Derived.Shelf.Abstract
import Derived.WalkKit
import Derived.OwnWalk
import Derived.Test.YthlmcfbadhidbaaGreatQLabelDistLabelNeededLabelSelfLabelTellsL1
/- Rows: what the chapter says of offsets and numbers. No program in sight. -/
namespace Go.Proofs.YthlmcfbadhidbaaGreat
open Go Go.RowKit
theorem nth_mem {α : Type} [Inhabited α] {l : List α} {k : Nat} (h : k < l.length) : nth l k ∈ l := by rw [nth_eq h]; exact List.getElem_mem _
theorem rises_nth {l : List Int} (h : Rises ltI l) {k : Nat} (hk : k + 1 < l.length) : nth l k < nth l (k + 1) := by
  rw [nth_eq (by omega), nth_eq hk]
  have := List.pairwise_iff_getElem.1 h k (k + 1) (by omega) hk (by omega)
  simpa [ltI] using this
/-- a place's row -/
def rowL (O T : List Int) (v : Nat) : List Int := (T.drop (nth O v).toNat).take ((nth O (v + 1)).toNat - (nth O v).toNat)
def rowX (O T : List Int) (v : Nat) : List (Int × Int) := (rowL O T v).map fun x => ((v : Int), x)
/-- the pairs of the first k places -/
def pairsK (O T : List Int) (k : Nat) : List (Int × Int) := (List.range k).flatMap (rowX O T)
def pairs (O T : List Int) : List (Int × Int) := pairsK O T (O.length - 1)
theorem pairsK_step (O T : List Int) (k : Nat) : pairsK O T (k + 1) = pairsK O T k ++ rowX O T k := by
  unfold pairsK; rw [List.range_succ, List.flatMap_append]; simp
/-- offsets that can be gone through -/
structure OffOk (O T : List Int) : Prop where
  two : 2 ≤ O.length
  lo : ∀ v, v < O.length → 0 ≤ nth O v
  hi : ∀ v, v < O.length → nth O v ≤ T.length
  le : ∀ v, v + 1 < O.length → nth O v ≤ nth O (v + 1)
theorem rowL_len {O T : List Int} (h : OffOk O T) {v : Nat} (hv : v + 1 < O.length) : (rowL O T v).length = (nth O (v + 1)).toNat - (nth O v).toNat := by
  have h1 := h.hi (v + 1) hv
  unfold rowL
  rw [List.length_take, List.length_drop]
  omega
theorem rowL_nth {O T : List Int} {v j : Nat} (hj : j < (rowL O T v).length) : nth (rowL O T v) j = nth T ((nth O v).toNat + j) := by
  have hl : (nth O v).toNat + j < T.length := by unfold rowL at hj; rw [List.length_take, List.length_drop] at hj; omega
  rw [nth_eq hj, nth_eq hl]
  simp only [rowL, List.getElem_take, List.getElem_drop]
/-- numbers of a row rise, each of 0 to n-1 -/
def okRow (n : Int) (l : List Int) : Bool := (List.range l.length).all (okAt n l)
theorem okRow_iff {n : Int} {l : List Int} : okRow n l = true ↔ (∀ x ∈ l, 0 ≤ x ∧ x < n) ∧ Rises ltI l := by
  unfold okRow
  rw [List.all_eq_true]
  constructor
  · intro h
    have h1 : ∀ i, i < l.length → okAt n l i = true := fun i hi => h i (List.mem_range.2 hi)
    refine ⟨fun x hx => ?_, ?_⟩
    · obtain ⟨i, hi, rfl⟩ := List.mem_iff_getElem.1 hx
      have := h1 i hi
      unfold okAt at this
      rw [nth_eq hi] at this
      simp only [Bool.and_eq_true, decide_eq_true_eq] at this
      exact this.1
    · rw [← rise_iff stoI]
      unfold riseB
      rw [List.all_eq_true]
      intro i hi
      rw [List.mem_range] at hi
      have := h1 (i + 1) (by omega)
      unfold okAt at this
      unfold riseAt ltI
      simp at this ⊢
      exact this.2
  · rintro ⟨h1, h2⟩ i hi
    rw [List.mem_range] at hi
    have h3 := h1 _ (nth_mem hi)
    unfold okAt
    rw [decide_eq_true h3.1, decide_eq_true h3.2]
    rcases Nat.eq_zero_or_pos i with h4 | h4
    · simp [h4]
    · have := rises_nth h2 (k := i - 1) (by omega)
      rw [show i - 1 + 1 = i by omega] at this
      simp [this]
def sortB (O : List Int) : Bool := (List.range (O.length - 1)).all fun v => decide (nth O v ≤ nth O (v + 1))
def offB (O T : List Int) : Bool := decide (2 ≤ O.length) && decide (O.length ≤ 201) && decide (T.length ≤ 2000) && decide (nth O 0 = 0) && decide (nth O (O.length - 1) = T.length) && sortB O
def halfB (O T : List Int) : Bool := offB O T && (List.range (O.length - 1)).all fun v => okRow ((O.length - 1 : Nat) : Int) (rowL O T v)
theorem sortB_at {O : List Int} (h : sortB O = true) {v : Nat} (hv : v + 1 < O.length) : nth O v ≤ nth O (v + 1) := by
  unfold sortB at h
  have := List.all_eq_true.1 h v (List.mem_range.2 (by omega))
  simpa using this
theorem sortB_le {O : List Int} (h : sortB O = true) : ∀ (d v : Nat), v + d < O.length → nth O v ≤ nth O (v + d)
  | 0, v, _ => Int.le_refl _
  | d + 1, v, hv => Int.le_trans (sortB_le h d v (by omega)) (sortB_at h (by omega))
theorem offB_parts {O T : List Int} (h : offB O T = true) : 2 ≤ O.length ∧ O.length ≤ 201 ∧ T.length ≤ 2000 ∧ nth O 0 = 0 ∧ nth O (O.length - 1) = T.length ∧ sortB O = true := by
  unfold offB at h
  simp only [Bool.and_eq_true, decide_eq_true_eq] at h
  obtain ⟨⟨⟨⟨⟨h1, h2⟩, h3⟩, h4⟩, h5⟩, h6⟩ := h
  exact ⟨h1, h2, h3, h4, h5, h6⟩
theorem offOk_of {O T : List Int} (h : offB O T = true) : OffOk O T := by
  obtain ⟨h1, h2, h3, h4, h5, h6⟩ := offB_parts h
  refine ⟨h1, fun v hv => ?_, fun v hv => ?_, fun v hv => sortB_at h6 hv⟩
  · have := sortB_le h6 v 0 (by omega)
    rw [h4, Nat.zero_add] at this; exact this
  · have := sortB_le h6 (O.length - 1 - v) v (by omega)
    rw [show v + (O.length - 1 - v) = O.length - 1 by omega, h5] at this; exact this
/-- are rows right? -/
def checkR (O T R V : List Int) : Bool :=
  decide (O.length = R.length) && decide (T.length = V.length) && halfB O T && halfB R V && (pairs O T).all fun x => inB (rowL R V x.2.toNat) x.1
/-! ### one number behind the other -/
def okStep (n : Int) (p x : Int × Int) : Bool := decide (0 ≤ x.2) && decide (x.2 < n) && !(decide (x.1 = p.1) && decide (x.2 ≤ p.2))
def okFrom (n : Int) : Int × Int → List (Int × Int) → Bool
  | _, [] => true
  | p, x :: l => okStep n p x && okFrom n x l
def lastP : Int × Int → List (Int × Int) → Int × Int
  | p, [] => p
  | _, x :: l => lastP x l
theorem lastP_append (p : Int × Int) : ∀ (l m : List (Int × Int)), lastP p (l ++ m) = lastP (lastP p l) m
  | [], _ => rfl
  | x :: l, m => by rw [List.cons_append, lastP, lastP, lastP_append x l m]
  termination_by l => l.length
theorem okFrom_append (n : Int) : ∀ (l : List (Int × Int)) (p : Int × Int) (m : List (Int × Int)), okFrom n p (l ++ m) = (okFrom n p l && okFrom n (lastP p l) m)
  | [], p, m => by simp [okFrom, lastP]
  | x :: l, p, m => by rw [List.cons_append, okFrom, okFrom, okFrom_append n l x m, lastP, Bool.and_assoc]
theorem okFrom_snoc (n : Int) (p : Int × Int) (l : List (Int × Int)) (x : Int × Int) : okFrom n p (l ++ [x]) = (okFrom n p l && okStep n (lastP p l) x) := by
  rw [okFrom_append]; simp [okFrom]
theorem lastP_snoc (p : Int × Int) (l : List (Int × Int)) (x : Int × Int) : lastP p (l ++ [x]) = x := by rw [lastP_append]; rfl
theorem okFrom_no {n : Int} {p : Int × Int} {l m : List (Int × Int)} (h : okFrom n p l = false) (hp : l <+: m) : okFrom n p m = false := by
  obtain ⟨t, rfl⟩ := hp
  rw [okFrom_append, h]; rfl
/-- one row, behind a pair of its own place -/
theorem okFrom_same (n v : Int) : ∀ (l : List Int) (y : Int), okFrom n (v, y) (l.map fun x => (v, x)) = true ↔ (∀ x ∈ l, 0 ≤ x ∧ x < n) ∧ Rises ltI (y :: l)
  | [], y => by simp [okFrom, Rises]
  | x :: l, y => by
    rw [List.map_cons, okFrom, Bool.and_eq_true, okFrom_same n v l x]
    unfold okStep
    simp only [decide_true, Bool.true_and, Bool.and_eq_true, decide_eq_true_eq, Bool.not_eq_true', decide_eq_false_iff_not]
    constructor
    · rintro ⟨⟨⟨h1, h2⟩, h3⟩, h4, h5⟩
      refine ⟨fun z hz => ?_, ?_⟩
      · rcases List.mem_cons.1 hz with rfl | hz
        · exact ⟨h1, h2⟩
        · exact h4 z hz
      · refine List.pairwise_cons.2 ⟨fun z hz => ?_, h5⟩
        rcases List.mem_cons.1 hz with rfl | hz
        · simp [ltI]; omega
        · have := (List.pairwise_cons.1 h5).1 z hz
          simp [ltI] at this ⊢; omega
    · rintro ⟨h1, h2⟩
      obtain ⟨h3, h4⟩ := List.pairwise_cons.1 h2
      have := h3 x (by simp)
      simp [ltI] at this
      exact ⟨⟨h1 x (by simp), by omega⟩, fun z hz => h1 z (by simp [hz]), h4⟩
theorem okFrom_row {n v : Int} {p : Int × Int} (hp : p.1 ≠ v) (l : List Int) : okFrom n p (l.map fun x => (v, x)) = okRow n l := by
  rw [Bool.eq_iff_iff, okRow_iff]
  cases l with
  | nil => simp [okFrom, Rises]
  | cons x l =>
    rw [List.map_cons, okFrom, Bool.and_eq_true, okFrom_same n v l x]
    unfold okStep
    have hne : decide (v = p.1) = false := by simp; exact fun e => hp e.symm
    simp only [hne, Bool.false_and, Bool.not_false, Bool.and_true, Bool.and_eq_true, decide_eq_true_eq]
    constructor
    · rintro ⟨h1, h2, h3⟩
      exact ⟨fun z hz => (List.mem_cons.1 hz).elim (fun e => e ▸ h1) (h2 z), h3⟩
    · rintro ⟨h1, h2⟩
      exact ⟨h1 x (by simp), fun z hz => h1 z (by simp [hz]), h2⟩
theorem lastP_row (p : Int × Int) (v : Int) : ∀ l : List Int, (lastP p (l.map fun x => (v, x))).1 = if l = [] then p.1 else v
  | [] => rfl
  | x :: l => by
    rw [List.map_cons, lastP, lastP_row (v, x) v l]
    by_cases h : l = [] <;> simp [h]
theorem lastP_lt (O T : List Int) : ∀ k : Nat, (lastP (-1, 0) (pairsK O T k)).1 < k
  | 0 => by simp [pairsK, lastP]
  | k + 1 => by
    rw [pairsK_step, lastP_append]
    unfold rowX
    rw [lastP_row]
    have := lastP_lt O T k
    split <;> omega
/-- all pairs, one behind the other, are right just if each row is -/
theorem okFrom_pairs (n : Int) (O T : List Int) : ∀ k : Nat, okFrom n (-1, 0) (pairsK O T k) = (List.range k).all fun v => okRow n (rowL O T v)
  | 0 => rfl
  | k + 1 => by
    rw [pairsK_step, okFrom_append, okFrom_pairs n O T k, List.range_succ, List.all_append]
    congr 1
    unfold rowX
    rw [okFrom_row (by have := lastP_lt O T k; omega)]
    simp
theorem halfB_pairs {O T : List Int} (h : offB O T = true) : halfB O T = okFrom ((O.length - 1 : Nat) : Int) (-1, 0) (pairs O T) := by
  unfold halfB pairs
  rw [h, okFrom_pairs, Bool.true_and]
theorem rowL_I64 {O T : List Int} {v : Nat} (h : ∀ x ∈ T, I64 x) : ∀ x ∈ rowL O T v, I64 x := fun x hx => h x (List.mem_of_mem_drop (List.mem_of_mem_take hx))
theorem mem_pairs {O T : List Int} {x : Int × Int} : x ∈ pairs O T ↔ ∃ v, v < O.length - 1 ∧ x.1 = (v : Int) ∧ x.2 ∈ rowL O T v := by
  unfold pairs pairsK rowX
  simp only [List.mem_flatMap, List.mem_range, List.mem_map]
  constructor
  · rintro ⟨v, h1, y, h2, rfl⟩; exact ⟨v, h1, rfl, h2⟩
  · rintro ⟨v, h1, h2, h3⟩; exact ⟨v, h1, x.2, h3, by rw [← h2]⟩
end Go.Proofs.YthlmcfbadhidbaaGreat
/- A range over a function in the new style: regions that draw their order within a round; pieces of memory under the law's own book-keeping. -/
namespace Go.Proofs.YthlmcfbadhidbaaGreat
open Go Go.RowKit
section
variable {F : Fence} {n : Nat} {P : Program}
theorem wpQuietIn_of {ops : Array Oper} {C : World → Prop} {Q : Act → Prop} : ∀ {l : List Oper} {a : Act}, wpQuiet P ops C Q l a → wpQuietIn Fence.wide n P ops C Q l a
  | [], _, h => h
  | o :: l, a, h => by
    unfold wpQuiet at h
    unfold wpQuietIn
    refine ⟨fun _ _ _ _ => trivial, ?_⟩
    split
    · rename_i hw
      rw [if_pos hw] at h
      obtain ⟨v, hv, hk⟩ := h
      refine ⟨v, fun w hw => ?_, wpQuietIn_of hk⟩
      have := hv w hw
      unfold Oper.quietAt at this
      unfold Oper.quietAtIn
      generalize (execOp a.eval o).run P w = r at this
      cases r with
      | ok x w' =>
        cases x <;> first | exact this | exact this.elim | skip
        obtain ⟨h1, h2⟩ := this
        exact ⟨h1, fun h => by simp [Fence.wide] at h, callsIn_wide.2 h2⟩
      | halt x w' => exact this.elim
    · rename_i hw
      rw [if_neg hw] at h
      exact wpQuietIn_of h
theorem wpOpIn_round {r : Nat} {ops : Array Oper} {Q : Exit → Act → World → Prop} {i : Nat} {K K' : Act → World → Prop} {a : Act} {w : World} (_ : F.round = none) (hnd : ∀ (i : Nat) (o : Oper), ops[i]? = some o → ∀ c, o.op ≠ .defer c)
    (hK : ∀ a w, K a w → K' a w) (h : wpOpIn F n P ops Q i K a w) : wpOpIn (F.inRound r) n P ops Q i K' a w := by
  have h := wpOpIn_mono hK h
  unfold wpOpIn at h ⊢
  split
  · rename_i ho; rw [ho] at h; exact h
  · rename_i o ho
    rw [ho] at h
    simp only at h
    split
    · rename_i hw
      rw [if_pos hw] at h
      refine ⟨h.1, ?_⟩
      have h2 := h.2
      rw [Oper.semAt_eq _ _ _ (hnd i o ho)] at h2 ⊢
      exact h2
    · rename_i hw
      rw [if_neg hw] at h
      exact h
theorem wpAnyIn_round {r : Nat} {md : Region.Mode} {ops : Array Oper} {Q : Exit → Act → World → Prop} (hro : F.round = none) (hnd : ∀ (i : Nat) (o : Oper), ops[i]? = some o → ∀ c, o.op ≠ .defer c) :
    ∀ (fuel : Nat) (listed : Array Bool) (a : Act) (w : World), wpAnyIn F n P md ops Q fuel listed a w → wpAnyIn (F.inRound r) n P md ops Q fuel listed a w
  | 0, _, _, _, h => h
  | fuel + 1, _, _, _, h => ⟨h.1, fun i hi => wpOpIn_round hro hnd (fun a w => wpAnyIn_round hro hnd fuel _ a w) (h.2 i hi)⟩
def noDefer (o : Oper) : Bool := match o.op with | .defer _ => false | _ => true
/-- a region that draws its order, within a round: as outside of it -/
theorem wpIn_region_ext {r : Nat} {id : Nat} {Q : Exit → Act → World → Prop} {a : Act} {w : World} {l : List Oper} (hm : P.follows .mixedOrders = true) (hB : Region.lexB .any l.toArray = true) (hd : l.all noDefer = true)
    (h : wpQuiet P l.toArray (fun w' => ∃ x : ExtOf w, w' = x.val) (fun a' => ∀ w', (∃ x : ExtOf w, w' = x.val) → Q .normal a' w') l a) : (Code.region id l.toArray true).wpIn (Fence.wide.inRound r) n P Q a w := by
  have hnd : ∀ (i : Nat) (o : Oper), l.toArray[i]? = some o → ∀ c, o.op ≠ .defer c := fun i o ho c e => by
    have := List.all_eq_true.1 hd o (List.mem_of_getElem? (by simpa using ho))
    unfold noDefer at this
    rw [e] at this
    cases this
  have hB0 := hB
  simp only [Region.lexB, Bool.and_eq_true] at hB
  refine wpIn_region_any hm (wpAnyIn_round rfl hnd _ _ _ _ (wpAnyIn_of_quiet (C := fun w' => ∃ x : ExtOf w, w' = x.val) (Q := fun a' => ∀ w', (∃ x : ExtOf w, w' = x.val) → Q .normal a' w') rfl (fun _ w' hw' h => h w' hw') _ _ _ _ ⟨⟨{ w with drawn := w.drawn + 1 }, ⟨rfl, rfl, rfl, Nat.le_refl _, fun _ _ => rfl⟩⟩, rfl⟩ ?_))
  have := wpAnyQIn_lex (F := Fence.wide) (n := n) (C := fun w' => ∃ x : ExtOf w, w' = x.val) (md := .any) hB.1 l 0 (Array.replicate l.toArray.size false) a (by simp) (by simpa using hB.2) (wpQuietIn_of h)
  simpa using this
end
section
variable {P : Program} {n r : Nat}
theorem rowsIn_of {row : String} {args : Array Value} {w : World} {R : Value → World → Prop} (h : Rows P row args w R) : RowsIn Fence.wide n P row args w R := fun c cs _ => let ⟨v, w', hr, s⟩ := h c cs; ⟨v, w', hr, stepsIn_wide.2 s⟩
theorem wpListIn_round {ops : Array Oper} {Q : Exit → Act → World → Prop} (hL : ¬ LetsOut Q) : ∀ (l : List Oper) (a : Act) (w : World), l.all noDefer = true → wpList P ops Q l a w → wpListIn (Fence.wide.inRound r) n P ops Q l a w
  | [], _, _, _, h => h
  | o :: l, a, w, hd, h => by
    rw [List.all_cons, Bool.and_eq_true] at hd
    have hnd : ∀ c, o.op ≠ .defer c := fun c e => by
      have := hd.1
      unfold noDefer at this
      rw [e] at this
      cases this
    unfold wpList at h
    unfold wpListIn
    split
    · rename_i hw
      rw [if_pos hw] at h
      rcases h with h | h
      · refine ⟨fun _ _ => trivial, ?_⟩
        rw [Oper.semAt_eq _ _ _ hnd]
        unfold Oper.wp at h
        generalize (execOp a.eval o).run P w = res at h
        unfold Oper.upon at h
        unfold Oper.uponIn
        split at h
        · exact wpListIn_round hL l _ _ hd.2 h
        · exact wpListIn_round hL l _ _ hd.2 h
        · exact wpListIn_round hL l _ _ hd.2 h
        · refine ⟨fun h => by simp [Fence.wide] at h, CallsIn.inRound r ((callsIn_wide.2 h).mono fun e w'' hr => ?_)⟩
          cases e with
          | returned v => exact wpListIn_round hL l _ _ hd.2 hr
          | panicked chain => exact hr
          | outgrown => exact hr
        · exact ⟨fun h => by simp [Fence.wide] at h, (rowsIn_of h).mono fun v w'' hr => wpListIn_round hL l _ _ hd.2 hr⟩
        · exact h
        · exact h.elim
      · exact absurd h.2 hL
    · rename_i hw
      rw [if_neg hw] at h
      exact ⟨fun _ _ => trivial, wpListIn_round hL l _ _ hd.2 h⟩
/-- a region of one order, within a round: as outside of it -/
theorem wpIn_region_list {id : Nat} {l : List Oper} {Q : Exit → Act → World → Prop} {a : Act} {w : World} (hL : ¬ LetsOut Q) (hd : l.all noDefer = true) (h : wpList P l.toArray Q l a w) : (Code.region id l.toArray false).wpIn (Fence.wide.inRound r) n P Q a w :=
  wpIn_region_lit (wpListIn_round hL l a w hd h)
end
theorem Kn.pick {w : World} {Φ : List (World → Prop)} (h : Kn w Φ) (is : List Nat) : Kn w (is.filterMap fun i => Φ[i]?) := fun φ hφ => by
  obtain ⟨i, _, hi⟩ := List.mem_filterMap.1 hφ
  exact h φ (List.mem_of_getElem? hi)
/-- every block that the piece lies in is cells -/
def Pc.cells (p : Pc) : Prop := ∀ w, p.holds w → ∀ k, p.foot k → ∃ o : Obj, w.heap[k]? = some o ∧ o.isCells = true
theorem Pc.blk_cells (g : Nat) (t : TypeId) (cs : Array Value) : (Pc.blk g t cs).cells := fun _ h k e => by
  cases e
  have h : Blk _ g t cs := h
  exact ⟨_, h, rfl⟩
theorem Pc.own_cells (e : TypeId) (size : Nat) (q : Option Addr) (n c : Nat) (xs : List Value) : (Pc.own e size q n c xs).cells := fun w h k hk => by
  have h : w.ownsRow 0 e size (.slice q n c) n xs := h
  rcases h.2 with ⟨h1, h2⟩ | ⟨g, cap, cur, h1, hg, hh, _⟩
  · subst h2
    rcases h.2 with ⟨h3, _⟩ | ⟨g, cap, cur, h1, hg, hh, _⟩
    · injection h3 with h3; subst h3; cases hk
    · injection h1 with h1; subst h1
      obtain rfl : g = k := by injection hk
      exact ⟨_, hh, rfl⟩
  · injection h1 with h1; subst h1
    obtain rfl : g = k := by injection hk
    exact ⟨_, hh, rfl⟩
/-- a turn of a new block that is no cells leaves pieces of cells as they are -/
theorem Sep.turn {w0 w w' : World} {Γ : List Pc} {row : Option Nat} {B : Nat} (S : Sep w0 w Γ) (hΓ : ∀ p ∈ Γ, p.cells) (hB : w0.heap.size ≤ B) (hg : w.grownBy w' row) (hr : ∀ r, row = some r → B ≤ r ∧ ∃ o : Obj, w.heap[r]? = some o ∧ o.isCells = false) : Sep w0 w' Γ := by
  refine ⟨Below.trans S.ext ⟨hg.os, hg.tape, hg.output, hg.size, fun k hk => hg.block k (Nat.lt_of_lt_of_le hk S.ext.size) fun e => ?_⟩, fun p hp => p.loc w w' (S.all p hp) fun k hk => hg.block k (S.lt hp hk) fun e => ?_, S.new, S.apart⟩
  · have := (hr k e.symm).1; omega
  · obtain ⟨_, o, h1, h2⟩ := hr k e.symm
    obtain ⟨o', h3, h4⟩ := hΓ p hp w (S.all p hp) k hk
    rw [h1] at h3; injection h3 with h3; subst h3; rw [h2] at h4; cases h4
/-- pieces of cells as what a loop over an iterator keeps -/
theorem sep_ownFrom {β : Type} {w0 : World} {B : Nat} (f : β → World → Prop) (hB : w0.heap.size ≤ B) (h : ∀ s W, f s W → ∃ Γ, (∀ p ∈ Γ, p.cells) ∧ Sep w0 W Γ ∧ ∀ W', Sep w0 W' Γ → f s W') : OwnFrom B f :=
  fun s W W' row hs hg hr => by
    obtain ⟨Γ, h1, h2, h3⟩ := h s W hs
    exact h3 W' (h2.turn h1 hB hg hr)
theorem cells_all {Γ : List Pc} (h : ∀ p ∈ Γ, (∃ g t cs, p = Pc.blk g t cs) ∨ ∃ e size q n c xs, p = Pc.own e size q n c xs) : ∀ p ∈ Γ, p.cells := fun p hp => by
  rcases h p hp with ⟨g, t, cs, rfl⟩ | ⟨e, size, q, n, c, xs, rfl⟩
  · exact Pc.blk_cells _ _ _
  · exact Pc.own_cells _ _ _ _ _ _
/-- the block for the rounds' deferred calls, turned once more: what was there when the call began stays -/
theorem Sep.putObj {w0 w : World} {Γ : List Pc} (S : Sep w0 w Γ) (hΓ : ∀ p ∈ Γ, p.cells) {D : Nat} {o : Obj} (o' : Obj) (hD : w0.heap.size ≤ D) (hK : w.heap[D]? = some o) (ho : o.isCells = false) : Sep w0 (w.putObj D o') Γ :=
  S.turn hΓ hD (grownBy_putObj' w D o') fun r e => by cases e; exact ⟨Nat.le_refl _, o, hK, ho⟩
theorem keeps_ext {W W' : World} (h : Ext W W') : KeepsOthers W W' := ⟨h.size, fun k _ hk _ => (h.block k (Array.getElem?_eq_some_iff.1 hk).1).trans hk⟩
/-- append onto a piece, in a loop over an iterator: whatever is no cells stays, too -/
theorem wpList_append_sepK {P : Program} {w0 w : World} {Γ : List Pc} {ops : Array Oper} {rest : List Oper} {o : Oper} {a : Act} {Q : Exit → Act → World → Prop} (hgd : o.guard = none) (s x : Operand) (t : TypeId)
    (ho : o.op = .call { callee := .builtin .append, args := #[s, x], argTypes := #[t, t] })
    (e : TypeId) (i : TypeInfo) (z : Value) (size bytes : Nat) (ht : P.underlying t = some (.slice e)) (hi : P.info? e = some i) (hz : i.zero = some z)
    (hsize : i.size = size) (hby : i.bytes = bytes) (hzs : z.cells.size = size) (hsz : 0 < size)
    (S : Sep w0 w Γ) (j : Nat) (q : Option Addr) (n cq : Nat) (xs : List Value) (hs : a.eval s = .slice q n cq) (hj : Γ[j]? = some (.own e size q n cq xs))
    (A : Option Addr) (m c : Nat) (news : List Value) (hx : a.eval x = .slice A m c) (hr : Rd w size A m news) (h1 : ∀ u ∈ news, u.oneCell' = true)
    (hbytes : (n + m) * bytes ≤ 140737488355328) (h63 : n + m ≤ 140737488355328)
    (h : ∀ q' c' w', Sep w0 w' (Γ.set j (.own e size q' (n + m) c' (xs ++ news))) → w.heap.size ≤ w'.heap.size → KeepsOthers w w' → wpList P ops Q rest (a.put o.dst (.slice q' (n + m) c')) w') : wpList P ops Q (o :: rest) a w := by
  refine wpList_append_rd hgd s x t ho w0.heap.size e i z size bytes ht hi hz hsize hby hzs hsz q n cq xs hs (S.own j hj) A m c news hx hr h1 hbytes h63 S.ext.size ?_
  intro q' c' w' ho' hg hat _
  refine h q' c' w' (S.put j hj _ hg (fun k hk => hk) (own_base ho' (Nat.zero_le _)) fun k hk => ?_) hg.size (KeepsOthers.of_grownBy hg fun k o ek hk => ?_)
  · rcases hat with h | h
    · exact .inl (h.symm.trans hk)
    · have : some w.heap.size = some k := h.symm.trans hk
      injection this with this
      exact .inr (by omega)
  · obtain ⟨o', h1, h2⟩ := Pc.own_cells e size q n cq xs w (S.all _ (List.mem_of_getElem? hj)) k ek
    rw [hk] at h1; injection h1 with h1; subst h1; exact h2
end Go.Proofs.YthlmcfbadhidbaaGreat
/- The program's rows: sorted offsets, numbers within, and the iterator over all pairs. -/
namespace Go.Proofs.YthlmcfbadhidbaaGreat
open Go Go.RowKit Go.Shelf Go.Lib
theorem lessI (x y : Int) (w : World) : Calls Tryz.prog 86 #[.int .i64 x, .int .i64 y] w fun e w' => e = .returned (.bool (decide (x < y))) ∧ Ext w w' :=
  (Any.cmp_Less_int2 { Tryz.binI with } x y w).mono fun e w' ⟨h1, h2⟩ => ⟨h1, by rw [h2]; exact Below.refl _ _⟩
set_option maxHeartbeats 1000000 in
theorem IsSortedI (p : Option Addr) (n c : Nat) (l : List Int) (w : World) (hl : Rd w 1 p n (encI l)) (h0 : 0 < n) :
    Calls Tryz.prog 83 #[.slice p n c] w fun e w' => e = .returned (.bool (sortB l)) ∧ Ext w w' := by
  have p1 := hl.ptr
  have n1 := hl.small
  have l1 := hl.nI
  have HL := Lib.hid hl; clear hl
  have L1 := Lib.hid l1; clear l1
  go_enter Tryz.func83, Tryz.ntmps83
  go_wp2
  go_loopw [3] (fun i wr => ∃ j : Nat, j < n ∧ i = .int .i64 j ∧ (∀ v, j ≤ v → v + 1 < n → nth l v ≤ nth l (v + 1)) ∧ Ext w wr) (fun i _ => (intOf i).toNat)
  case atStart => exact ⟨n - 1, by omega, by go_num, fun v h1 h2 => by omega, Below.refl _ _⟩
  case round =>
    obtain ⟨j, hj, rfl, ha, hE⟩ := hrel
    have HA := Lib.hid ha; clear ha
    rcases Nat.eq_zero_or_pos j with hz | hz
    · subst hz
      have HF : Hid (sortB l = true) := by
        unfold Hid sortB
        rw [List.all_eq_true]
        intro v hv
        rw [List.mem_range] at hv
        exact decide_eq_true (HA.out v (by omega) (by rw [L1.out]; omega))
      have HE := Lib.hid hE; clear hE
      go_wp2
      go_ret
      exact ⟨ret_bool HF.out.symm, HE.out⟩
    · have g1 := hE.cell (HL.out.cI hj)
      have g2 := hE.cell (HL.out.cI (k := j - 1) (by omega))
      have d1 : decide ((0:Int) < (j:Int)) = true := by simp; omega
      have d1n : decide (0 < j) = true := by simp; omega
      have d2 : (0:Int) ≤ j := by omega
      have d3 : (j:Int) < n := by omega
      have d4 : (1:Int) ≤ (j:Int) := by omega
      have d5 : (j:Int) - 1 < n := by omega
      have d6 : (0:Int) ≤ (j:Int) - 1 := by omega
      have HLs := Lib.hid (fun x : ExtOf wr => lessI (nth l j) (nth l (j - 1)) x.val)
      have HE := Lib.hid hE; clear hE
      by_cases hlt : nth l j < nth l (j - 1)
      · rw [decide_eq_true hlt] at HLs
        have HF : Hid (sortB l = false) := by
          unfold Hid sortB
          refine range_all_no _ _ (j - 1) (by rw [← L1.out]; omega) ?_
          rw [show j - 1 + 1 = j by omega]
          simp; exact hlt
        go_wp2
        have x1 := fun x : ExtOf wr => x.ext.cell g1
        have x2 := fun x : ExtOf wr => x.ext.cell g2
        refine wp_region_ext (by kernel_rfl) (by kernel_rfl) ?_
        repeat (go_big_quiet_step (((go_at_call 86; exact Calls.ext_of (HLs.out _)))))
        refine wpQuiet_nil ?_
        rintro w1 ⟨⟨_, hb1⟩, rfl⟩
        go_wp2
        go_ret
        exact ⟨ret_bool HF.out.symm, Ext.trans HE.out hb1⟩
      · rw [decide_eq_false hlt] at HLs
        go_wp2
        have x1 := fun x : ExtOf wr => x.ext.cell g1
        have x2 := fun x : ExtOf wr => x.ext.cell g2
        refine wp_region_ext (by kernel_rfl) (by kernel_rfl) ?_
        repeat (go_big_quiet_step (((go_at_call 86; exact Calls.ext_of (HLs.out _)))))
        refine wpQuiet_nil ?_
        rintro w1 ⟨⟨_, hb1⟩, rfl⟩
        go_wp2
        go_roundw
        case rel => exact ⟨j - 1, by omega, by go_num, fun v h1 h2 => by
          by_cases h3 : v = j - 1
          · subst h3; rw [show j - 1 + 1 = j by omega]; omega
          · exact HA.out v (by omega) h2, Ext.trans HE.out hb1⟩
        case measure => simp [intOf]; omega
def withB (m : Int) (l : List Int) : Bool := l.all fun x => decide (0 ≤ x) && decide (x ≤ m)
set_option maxHeartbeats 1000000 in
theorem withinG (m : Int) (p : Option Addr) (n c : Nat) (l : List Int) (w : World) (hl : Rd w 1 p n (encI l)) :
    Calls Tryz.prog 84 #[.int .i64 m, .slice p n c] w fun e w' => e = .returned (.bool (withB m l)) ∧ w = w' := by
  have p1 := hl.ptr
  have n1 := hl.small
  have l1 := hl.nI
  have HL := Lib.hid hl; clear hl
  have L1 := Lib.hid l1; clear l1
  go_enter Tryz.func84, Tryz.ntmps84
  go_wp2
  go_loop [6, 9] (fun _ i => ∃ k : Nat, k ≤ n ∧ i = .int .i64 k ∧ (l.take k).all (fun x => decide (0 ≤ x) && decide (x ≤ m)) = true) (fun _ i => n - (intOf i).toNat)
  case atStart => exact ⟨0, Nat.zero_le _, rfl, rfl⟩
  case round =>
    obtain ⟨k, hk, rfl, ha⟩ := hrel
    have HA := Lib.hid ha; clear ha
    by_cases hlt : k < n
    · have g1 := HL.out.cI hlt
      have d1 : (0:Int) ≤ k := by omega
      have d2 : (k:Int) < n := by omega
      have hkL : k < l.length := by rw [← L1.out]; exact hlt
      by_cases h1 : nth l k < 0
      · have b1 : decide (nth l k < 0) = true := by simpa using h1
        have HF : Hid (withB m l = false) := all_false_at _ l k hkL (by simp; omega)
        go_wp2
        go_ret
        exact ⟨ret_bool HF.out.symm, rfl⟩
      · have b1 : decide (nth l k < 0) = false := by simpa using h1
        by_cases h2 : m < nth l k
        · have b2 : decide (m < nth l k) = true := by simpa using h2
          have HF : Hid (withB m l = false) := all_false_at _ l k hkL (by simp; omega)
          go_wp2
          go_ret
          exact ⟨ret_bool HF.out.symm, rfl⟩
        · have b2 : decide (m < nth l k) = false := by simpa using h2
          have HS := Lib.hid (all_step (fun x : Int => decide (0 ≤ x) && decide (x ≤ m)) l k hkL HA.out (by simp; omega))
          go_wp2
          go_round
          case rel => exact ⟨k + 1, by omega, by go_num, HS.out⟩
          case measure => simp [intOf]; omega
    · have HF : Hid (withB m l = true) := all_end _ l k (by rw [← L1.out]; exact hlt) HA.out
      go_wp2
      go_ret
      exact ⟨ret_bool HF.out.symm, rfl⟩
theorem allG (po : Option Addr) (no co : Nat) (pt : Option Addr) (nt ct : Nat) (w : World) :
    Calls Tryz.prog 64 #[.slice po no co, .slice pt nt ct] w fun e w' => e = .returned (.func (.func 85) #[] #[.pointer (some ⟨w.heap.size, 0, none⟩), .pointer (some ⟨w.heap.size + 1, 0, none⟩)]) ∧ w' = (w.alloc (.cells #[.slice po no co] 22)).alloc (.cells #[.slice pt nt ct] 22) := by
  go_enter Tryz.func64, Tryz.ntmps64
  go_wp2
  go_ret
  exact ⟨by simp, rfl⟩
/-- a place's row, as it is read -/
theorem Rd.rowOf {w : World} {pt : Option Addr} {nt ct : Nat} {O T : List Int} (hT : Rd w 1 pt nt (encI T)) (hok : OffOk O T) (hct : nt ≤ ct) {k : Nat} (hk : k + 1 < O.length) :
    Rd w 1 (cutp pt ct (nth O k).toNat 1) ((nth O (k + 1)).toNat - (nth O k).toNat) (encI (rowL O T k)) := by
  have h1 := hok.le k hk
  have h2 := hok.hi (k + 1) hk
  have h3 := hT.nI
  have := hT.cut (l := (nth O k).toNat) (h := (nth O (k + 1)).toNat) (by omega) (by omega) hct
  rw [encI_drop, encI_take] at this
  exact this
/-- what a round keeps -/
def KpA (n₀ b1 b2 : Nat) (W W' : World) : Prop := Below n₀ W W' ∧ W'.heap[b1]? = W.heap[b1]? ∧ W'.heap[b2]? = W.heap[b2]?
theorem KpA.trans {n₀ b1 b2 : Nat} {A B C : World} (h : KpA n₀ b1 b2 A B) (k : KpA n₀ b1 b2 B C) : KpA n₀ b1 b2 A C := ⟨Below.trans h.1 k.1, k.2.1.trans h.2.1, k.2.2.trans h.2.2⟩
theorem KpA.refl (n₀ b1 b2 : Nat) (A : World) : KpA n₀ b1 b2 A A := ⟨Below.refl _ _, rfl, rfl⟩
theorem KpA.ext {n₀ b1 b2 : Nat} {A B : World} (h : Ext A B) (hn : n₀ ≤ A.heap.size) (h1 : b1 < A.heap.size) (h2 : b2 < A.heap.size) : KpA n₀ b1 b2 A B := ⟨h.mono hn, h.block b1 h1, h.block b2 h2⟩
abbrev PairOf (O T : List Int) := { x : Int × Int // x ∈ pairs O T }
theorem pairs_at {O T : List Int} {k j : Nat} (hk : k < O.length - 1) (hj : j < (rowL O T k).length) : ((k : Int), nth (rowL O T k) j) ∈ pairs O T := mem_pairs.2 ⟨k, hk, rfl, nth_mem hj⟩
theorem rowX_take {O T : List Int} {k j : Nat} (hj : j < (rowL O T k).length) : (rowX O T k).take (j + 1) = (rowX O T k).take j ++ [((k : Int), nth (rowL O T k) j)] := by
  have h1 : j < (rowX O T k).length := by unfold rowX; rw [List.length_map]; exact hj
  rw [take_succ_nth _ j h1]
  congr 2
  rw [nth_eq h1, nth_eq hj]
  simp [rowX]
theorem pairsK_prefix {O T : List Int} {k : Nat} : ∀ d, pairsK O T k <+: pairsK O T (k + d)
  | 0 => List.prefix_refl _
  | d + 1 => by
    rw [← Nat.add_assoc, pairsK_step]
    exact (pairsK_prefix d).trans (List.prefix_append _ _)
theorem pairs_prefix {O T : List Int} {k j : Nat} (hk : k < O.length - 1) : pairsK O T k ++ (rowX O T k).take j <+: pairs O T := by
  have h1 : pairsK O T k ++ (rowX O T k).take j <+: pairsK O T (k + 1) := by
    rw [pairsK_step]
    exact (List.prefix_append_right_inj _).2 (List.take_prefix _ _)
  have h2 := pairsK_prefix (O := O) (T := T) (k := k + 1) (O.length - 1 - (k + 1))
  rw [show k + 1 + (O.length - 1 - (k + 1)) = O.length - 1 by omega] at h2
  exact h1.trans h2
end Go.Proofs.YthlmcfbadhidbaaGreat
/- The iterator over all pairs: its contract. -/
namespace Go.Proofs.YthlmcfbadhidbaaGreat
open Go Go.RowKit Go.Shelf Go.Lib
attribute [local go_sem] Oper.semAt_some
set_option maxRecDepth 100000 in
set_option maxHeartbeats 4000000 in
theorem all_stops (n : Nat) (hn : 1 ≤ n) (b1 b2 n₀ : Nat) (po : Option Addr) (no co : Nat) (pt : Option Addr) (nt ct : Nat) (O T : List Int) (w : World) (hw : n₀ ≤ w.heap.size)
    (h1 : Blk w b1 22 #[.slice po no co]) (h2 : Blk w b2 22 #[.slice pt nt ct]) (hO : Rd w 1 po no (encI O)) (hT : Rd w 1 pt nt (encI T)) (hO0 : 0 < no → (adr po 0).block < n₀) (hT0 : 0 < nt → (adr pt 0).block < n₀)
    (hok : OffOk O T) (hct : nt ≤ ct) :
    SeqStopsK Fence.wide n Tryz.prog 85 #[.pointer (some ⟨b1, 0, none⟩), .pointer (some ⟨b2, 0, none⟩)] (fun x : PairOf O T => #[Value.int .i64 x.1.1, Value.int .i64 x.1.2]) (KpA n₀ b1 b2)
      (fun ys => ys.map (·.1) = pairs O T) (fun pre => pre.map (·.1) <+: pairs O T) (pairs O T).length w := by
  intro l J Jx W hW hJ hJx hY h0
  have B1 : Blk W b1 22 #[.slice po no co] := h1.ext hW
  have B2 : Blk W b2 22 #[.slice pt nt ct] := h2.ext hW
  have RO := hO.ext hW
  have RT := hT.ext hW
  have l1 := Lib.hid RO.nI
  have l2 := Lib.hid RT.nI
  have pO := RO.ptr
  have pT := RT.ptr
  have n1 := RO.small
  have n2 := RT.small
  have w2 := hok.two
  clear h1 h2 hO hT hJx
  have HW := Lib.hid hW; clear hW
  have HJ := Lib.hid hJ; clear hJ
  have HY := Lib.hid hY; clear hY
  have HOK := Lib.hid hok; clear hok
  have HRO := Lib.hid RO; clear RO
  have HRT := Lib.hid RT; clear RT
  have c1 := B1.cell 0
  have z1 := B1.lt
  have d0 : (1:Int) ≤ no := by have := l1.out; omega
  have HB1 := Lib.hid B1; clear B1
  have HB2 := Lib.hid B2; clear B2
  refine callsIn_of_wp Tryz.func85 rfl trivial ?_ rfl
  simp only [Tryz.ntmps85, List.size_toArray, List.length_cons, List.length_nil, Nat.reduceAdd, Nat.reduceSub, Array.replicate_succ, Array.replicate_zero, List.push_toArray, List.append_toArray, List.nil_append, List.cons_append]
  gi_wp2
  gi_loopw [4, 6, 10] (fun _ _ i wr => ∃ (k : Nat) (pre : List (PairOf O T)), k ≤ no - 1 ∧ i = .int .i64 k ∧ pre.map (·.1) = pairsK O T k ∧ J pre wr ∧ KpA n₀ b1 b2 W wr) (fun _ _ i _ => (no - 1) - (intOf i).toNat)
  case atStart => exact ⟨0, [], Nat.zero_le _, rfl, rfl, h0, KpA.refl _ _ _ _⟩
  case round =>
    clear c1
    obtain ⟨k, pre, hk, rfl, hpre, hJs, hKp⟩ := hrel
    have B1' : Blk wr b1 22 #[.slice po no co] := hKp.2.1.trans HB1.out
    have B2' : Blk wr b2 22 #[.slice pt nt ct] := hKp.2.2.trans HB2.out
    have RO' := HRO.out.below hKp.1 (by simpa using hO0)
    have RT' := HRT.out.below hKp.1 (by simpa using hT0)
    have HP := Lib.hid hpre; clear hpre
    have HJs := Lib.hid hJs; clear hJs
    have HKp := Lib.hid hKp; clear hKp
    by_cases hlt : k < no - 1
    · have hk1 : k + 1 < O.length := by rw [← l1.out]; omega
      have q1 := HOK.out.lo k (by omega)
      have q2 := HOK.out.le k hk1
      have q3 := HOK.out.hi (k + 1) hk1
      have c1 := B1'.cell 0
      have c2 := B2'.cell 0
      have g1 := RO'.cI (k := k) (by omega)
      have g2 := RO'.cI (k := k + 1) (by omega)
      have hrl := Lib.hid (rowL_len HOK.out hk1)
      have RL := Lib.hid (RT'.rowOf HOK.out hct hk1)
      obtain ⟨a, ha⟩ : ∃ a : Nat, nth O k = (a : Int) := ⟨(nth O k).toNat, by omega⟩
      obtain ⟨b, hb⟩ : ∃ b : Nat, nth O (k + 1) = (b : Int) := ⟨(nth O (k + 1)).toNat, by omega⟩
      rw [ha] at g1 q1 q2 hrl RL
      rw [hb] at g2 q2 q3 hrl RL
      have hq3 : (b:Int) ≤ ct := by have := l2.out; omega
      simp only [Int.toNat_natCast] at hrl RL
      have HRL : Hid (∀ W', Below n₀ W W' → Rd W' 1 (cutp pt ct a 1) (b - a) (encI (rowL O T k))) := fun W' h => by
        have h3 := (HRT.out.below h (by simpa using hT0)).rowOf HOK.out hct hk1
        rw [ha, hb] at h3
        simpa only [Int.toNat_natCast] using h3
      have d1 : (0:Int) ≤ k := by omega
      have d2 : (k:Int) < no := by omega
      have d2b : (k:Int) < (no:Int) - 1 := by omega
      have d3 : (0:Int) ≤ (k:Int) + 1 := by omega
      have d4 : (k:Int) + 1 < no := by omega
      clear ha hb B1' B2' RO' RT' q3
      gi_wp2
      refine wpIn_wide.2 ?_
      have x1 := fun x : ExtOf wr => x.ext.cell c1
      have x2 := fun x : ExtOf wr => x.ext.cell c2
      have y1 := fun x : ExtOf wr => x.ext.cell g1
      have y2 := fun x : ExtOf wr => x.ext.cell g2
      refine wp_region_ext (by kernel_rfl) (by kernel_rfl) ?_
      repeat (go_big_quiet_step ((fail)))
      refine wpQuiet_nil ?_
      rintro w1 ⟨⟨_, hb1⟩, rfl⟩
      have pR := RL.out.ptr
      have nR := RL.out.small
      have lR := Lib.hid RL.out.nI
      gi_wp2
      gi_loopw [6, 25] (fun _ j wx => ∃ (i : Nat) (pre' : List (PairOf O T)), i ≤ b - a ∧ j = .int .i64 i ∧ pre'.map (·.1) = pairsK O T k ++ (rowX O T k).take i ∧ J pre' wx ∧ KpA n₀ b1 b2 W wx) (fun _ j _ => (b - a) - (intOf j).toNat)
      case atStart => exact ⟨0, pre, Nat.zero_le _, rfl, by rw [HP.out]; simp, HJ.out _ _ _ none HJs.out (Ext.grown hb1) (fun r e => nomatch e),
        HKp.out.trans (KpA.ext hb1 (Nat.le_trans hw (Nat.le_trans HW.out.size HKp.out.1.size)) (Nat.lt_of_lt_of_le HB1.out.lt HKp.out.1.size) (Nat.lt_of_lt_of_le HB2.out.lt HKp.out.1.size))⟩
      case round =>
        clear hb1 x1 x2 y1 y2
        obtain ⟨i, pre', hi, rfl, hp', hJ', hK'⟩ := hrel
        have RLx := HRL.out _ hK'.1
        have HP' := Lib.hid hp'; clear hp'
        have HJ' := Lib.hid hJ'; clear hJ'
        have HK' := Lib.hid hK'; clear hK'
        by_cases hli : i < b - a
        · have hin : i < (rowL O T k).length := by rw [hrl.out]; exact hli
          have f1 := RLx.cI hli
          have d5 : (0:Int) ≤ i := by omega
          have d6 : (i:Int) < ((b - a : Nat) : Int) := by omega
          have hlen : pre'.length < (pairs O T).length := by
            have h3 := (pairs_prefix (O := O) (T := T) (k := k) (j := i + 1) (by omega)).length_le
            rw [rowX_take hin, ← List.append_assoc, ← HP'.out] at h3
            simp at h3; omega
          obtain ⟨fn, tmps, assign, body, hy, hR⟩ := HY.out pre' ⟨((k : Int), nth (rowL O T k) i), pairs_at (by rw [← l1.out]; exact hlt) hin⟩ _ HJ'.out hlen
          dsimp only at hy
          clear RLx
          gi_wp2
          refine hR.mono ?_
          rintro e W3 (⟨rfl, hJ3, hk3⟩ | ⟨rfl, hJx3⟩)
          · have HJ3 := Lib.hid hJ3; clear hJ3
            have HK3 := Lib.hid hk3; clear hk3
            gi_wp2
            go_roundw
            case rel => exact ⟨i + 1, _, by omega, by go_num, by rw [List.map_append, HP'.out, rowX_take hin, List.append_assoc]; rfl, HJ3.out, HK'.out.trans HK3.out⟩
            case measure => simp [intOf]; omega
          · have HX3 := Lib.hid hJx3; clear hJx3
            gi_wp2
            refine bodyPost_ret (results_none rfl _ _ _) rfl ?_
            exact ⟨⟨_, rfl⟩, .inr ⟨_, by
              have h3 := pairs_prefix (O := O) (T := T) (k := k) (j := i + 1) (by rw [← l1.out]; exact hlt)
              rw [rowX_take hin, ← List.append_assoc, ← HP'.out] at h3
              rw [List.map_append]; exact h3, HX3.out⟩⟩
        · obtain rfl : i = b - a := by omega
          clear RLx
          gi_wp2
          go_roundw
          case rel => exact ⟨k + 1, pre', by omega, by go_num, by rw [HP'.out, pairsK_step, List.take_of_length_le (by unfold rowX; rw [List.length_map, hrl.out]; exact Nat.le_refl _)], HJ'.out, HK'.out⟩
          case measure => simp [intOf]; omega
    · obtain rfl : k = no - 1 := by omega
      have d2 : decide (((no - 1 : Nat) : Int) < (no : Int) - 1) = false := by simp; omega
      have d3 : ((no - 1 : Nat) : Int) = (no : Int) - 1 := by omega
      gi_wp2
      go_end0
      exact ⟨⟨_, rfl⟩, .inl ⟨pre, by rw [HP.out, l1.out]; rfl, HJs.out⟩⟩
end Go.Proofs.YthlmcfbadhidbaaGreat
/- The program's half: offsets and numbers that are right by themselves. -/
namespace Go.Proofs.YthlmcfbadhidbaaGreat
open Go Go.RowKit Go.Shelf Go.Lib
attribute [local go_sem] Oper.semAt_some
theorem below_mid {B : Nat} {w W W' : World} (h : Below B w W) (k : Below B w W') (hs : W.heap.size ≤ W'.heap.size) : Below B W W' :=
  ⟨k.os.trans h.os.symm, k.tape.trans h.tape.symm, k.output.trans h.output.symm, hs, fun i hi => (k.block i hi).trans (h.block i hi).symm⟩
theorem kpA_of {w W W' : World} {b1 b2 : Nat} {o1 o2 : Obj} (h : Ext w W) (k : Ext w W') (hs : W.heap.size ≤ W'.heap.size) (h1 : W.heap[b1]? = some o1) (h2 : W.heap[b2]? = some o2) (k1 : W'.heap[b1]? = some o1) (k2 : W'.heap[b2]? = some o2) : KpA w.heap.size b1 b2 W W' :=
  ⟨below_mid h k hs, k1.trans h1.symm, k2.trans h2.symm⟩
theorem kpA_b {w3 : World} {n₀ b1 b2 : Nat} (hn : n₀ ≤ w3.heap.size) (h1 : b1 < w3.heap.size) (h2 : b2 < w3.heap.size) (W : World) (l : Nat) (o o' : Obj) (hl : w3.heap.size ≤ l) (h : W.heap[l]? = some o) (hc : o.isCells = false) (hw : o.isWalk = false) : KpA n₀ b1 b2 W (W.putObj l o') :=
  ⟨belowK_b hn W l o o' hl h hc hw, World.putObj_heap_other (by omega), World.putObj_heap_other (by omega)⟩
set_option maxRecDepth 100000 in
set_option maxHeartbeats 4000000 in
theorem halfG_no (po : Option Addr) (no co : Nat) (O : List Int) (pt : Option Addr) (nt ct : Nat) (T : List Int) (w : World) (hO : Rd w 1 po no (encI O)) (hT : Rd w 1 pt nt (encI T)) (hct : nt ≤ ct) (h : offB O T = false) : Calls Tryz.prog 63 #[.slice po no co, .slice pt nt ct] w fun e w' => e = .returned (.bool false) ∧ Ext w w' := by
  have _hc := hct
  have p1 := hO.ptr
  have n1 := hO.small
  have n2 := hT.small
  have l1 := Lib.hid hO.nI
  have l2 := Lib.hid hT.nI
  have S0 := Lib.hid (((Sep.start w).al #[.bool false] 4 w.heap.size rfl).al #[.int .i64 ((no:Int) - 1)] 3 (w.heap.size + 1) (by simp))
  have HSo := Lib.hid (fun W1 (h : Ext w W1) (h0 : 0 < no) => IsSortedI po no co O W1 (hO.ext h) h0)
  by_cases h1 : (no:Int) - 1 < 1
  · have d1 : decide ((no:Int) - 1 < 1) = true := by simpa using h1
    clear hO hT h
    go_enter Tryz.func63, Tryz.ntmps63
    go_wp2
    refine bodyPost_ret (v := .bool false) (by simp [results, Tryz.results63, go_sem]) rfl ⟨rfl, ?_⟩
    first | exact S0.out.ext | exact (S0.out.set 1 rfl 0 _).ext
  · have d1 : decide ((no:Int) - 1 < 1) = false := by simpa using h1
    by_cases h2 : 200 < (no:Int) - 1
    · have d2 : decide (200 < (no:Int) - 1) = true := by simpa using h2
      clear hO hT h
      go_enter Tryz.func63, Tryz.ntmps63
      go_wp2
      refine bodyPost_ret (v := .bool false) (by simp [results, Tryz.results63, go_sem]) rfl ⟨rfl, ?_⟩
      first | exact S0.out.ext | exact (S0.out.set 1 rfl 0 _).ext
    · have d2 : decide (200 < (no:Int) - 1) = false := by simpa using h2
      by_cases h3 : 2000 < nt
      · have d3 : decide ((2000:Int) < nt) = true := by simp; omega
        clear hO hT h
        go_enter Tryz.func63, Tryz.ntmps63
        go_wp2
        refine bodyPost_ret (v := .bool false) (by simp [results, Tryz.results63, go_sem]) rfl ⟨rfl, ?_⟩
        first | exact S0.out.ext | exact (S0.out.set 1 rfl 0 _).ext
      · have d3 : decide ((2000:Int) < nt) = false := by simp; omega
        have g0 := S0.out.ext.cell (hO.cI (k := 0) (by omega))
        have q1 : (0:Int) < no := by omega
        by_cases h4 : nth O 0 = 0
        · have d4 : (nth O 0 != 0) = false := by simpa using h4
          have g5 := S0.out.ext.cell (hO.cI (k := no - 1) (by omega))
          have q2 : (0:Int) ≤ (no:Int) - 1 := by omega
          have q3 : (no:Int) - 1 < no := by omega
          by_cases h5 : nth O (no - 1) = nt
          · have d5 : (nth O (no - 1) != (nt:Int)) = false := by simpa using h5
            have h6 : sortB O = false := by
              cases h7 : sortB O with
              | false => rfl
              | true =>
                unfold offB at h
                rw [h7, h4] at h
                rw [← l1.out, ← l2.out, h5] at h
                simp at h; omega
            rw [h6] at HSo
            clear hO hT h h6 h4 h5
            go_enter Tryz.func63, Tryz.ntmps63
            go_wp2_with (go_at_call 83; go_must (refine (HSo.out _ S0.out.ext (by omega)).mono ?_; rintro e w2 ⟨rfl, hb⟩; have S2 := Lib.hid (S0.out.call hb); have c4 := (S2.out.blk 1 rfl).cell 0; have f4 := (S2.out.blk 1 rfl).frozen 0; have z4 := (S2.out.blk 1 rfl).lt; clear hb))
            refine bodyPost_ret (v := .bool false) (by simp [results, Tryz.results63, go_sem, c4]) rfl ⟨rfl, (S2.out.set 1 rfl 0 _).ext⟩
          · have d5 : (nth O (no - 1) != (nt:Int)) = true := by simpa using h5
            clear hO hT h h4 h5
            go_enter Tryz.func63, Tryz.ntmps63
            go_wp2
            refine bodyPost_ret (v := .bool false) (by simp [results, Tryz.results63, go_sem]) rfl ⟨rfl, ?_⟩
            first | exact S0.out.ext | exact (S0.out.set 1 rfl 0 _).ext
        · have d4 : (nth O 0 != 0) = true := by simpa using h4
          clear hO hT h h4
          go_enter Tryz.func63, Tryz.ntmps63
          go_wp2
          refine bodyPost_ret (v := .bool false) (by simp [results, Tryz.results63, go_sem]) rfl ⟨rfl, ?_⟩
          first | exact S0.out.ext | exact (S0.out.set 1 rfl 0 _).ext
end Go.Proofs.YthlmcfbadhidbaaGreat
/- The program's half, where the offsets are right: each pair is looked at. -/
namespace Go.Proofs.YthlmcfbadhidbaaGreat
open Go Go.RowKit Go.Shelf Go.Lib
attribute [local go_sem] Oper.semAt_some
/-- what the loop keeps: the boxes of the iterator, the last pair, n, the result -/
def halfPc (b4 b : Nat) (po : Option Addr) (no co : Nat) (pt : Option Addr) (nt ct : Nat) (p : Int × Int) (r : Bool) : List Pc :=
  [.blk (b + 1 + 1 + 1) 22 #[.slice pt nt ct], .blk (b + 1 + 1) 22 #[.slice po no co], .blk (b + 1) 3 #[.int .i64 p.2], .blk b 3 #[.int .i64 p.1], .blk (b4 + 1) 3 #[.int .i64 ((no:Int) - 1)], .blk b4 4 #[.bool r]]
theorem halfPc_cells (b4 b : Nat) (po : Option Addr) (no co : Nat) (pt : Option Addr) (nt ct : Nat) (p : Int × Int) (r : Bool) : ∀ q ∈ halfPc b4 b po no co pt nt ct p r, q.cells :=
  cells_all fun q hq => by simp [halfPc] at hq; rcases hq with h | h | h | h | h | h <;> exact .inl ⟨_, _, _, h⟩
set_option maxRecDepth 100000 in
set_option maxHeartbeats 4000000 in
theorem halfG_yes (po : Option Addr) (no co : Nat) (O : List Int) (pt : Option Addr) (nt ct : Nat) (T : List Int) (w : World) (hO : Rd w 1 po no (encI O)) (hT : Rd w 1 pt nt (encI T)) (hct : nt ≤ ct) (h : offB O T = true) : Calls Tryz.prog 63 #[.slice po no co, .slice pt nt ct] w fun e w' => e = .returned (.bool (halfB O T)) ∧ Ext w w' := by
  have p1 := hO.ptr
  have n1 := hO.small
  have n2 := hT.small
  have l1 := hO.nI
  have l2 := hT.nI
  have hhb := Lib.hid (halfB_pairs h)
  have HOK := Lib.hid (offOk_of h)
  obtain ⟨r1, r2, r3, r4, r5, r6⟩ := offB_parts h
  have S0 := Lib.hid (((Sep.start w).al #[.bool false] 4 w.heap.size rfl).al #[.int .i64 ((no:Int) - 1)] 3 (w.heap.size + 1) (by simp))
  have HSo := Lib.hid (fun W1 (h : Ext w W1) => IsSortedI po no co O W1 (hO.ext h) (by omega))
  rw [r6] at HSo
  have d1 : decide ((no:Int) - 1 < 1) = false := by simp; omega
  have d2 : decide (200 < (no:Int) - 1) = false := by simp; omega
  have d3 : decide ((2000:Int) < nt) = false := by simp; omega
  have g0 := S0.out.ext.cell (hO.cI (k := 0) (by omega))
  have q1 : (0:Int) < no := by omega
  have d4 : (nth O 0 != 0) = false := by simpa using r4
  have g5 := S0.out.ext.cell (hO.cI (k := no - 1) (by omega))
  have q2 : (0:Int) ≤ (no:Int) - 1 := by omega
  have q3 : (no:Int) - 1 < no := by omega
  have d5 : (nth O (no - 1) != (nt:Int)) = false := by rw [← l1, ← l2] at r5; simpa using r5
  have L1 : Hid (((O.length - 1 : Nat) : Int) = (no:Int) - 1) := by unfold Hid; omega
  rw [L1.out] at hhb
  have hO0 : 0 < no → (adr po 0).block < w.heap.size := fun h => hO.lt (by omega)
  have hT0 : 0 < nt → (adr pt 0).block < w.heap.size := fun h => hT.lt (by omega)
  have HO := Lib.hid hO; clear hO
  have HT := Lib.hid hT; clear hT
  clear r1 r2 r3 r4 r5 r6 h l1 l2
  refine (callsIn_wide (n := 9)).1 ?_
  refine callsIn_of_wp_marks Tryz.func63 rfl trivial ?_ rfl
  simp only [Tryz.ntmps63, List.size_toArray, List.length_cons, List.length_nil, Nat.reduceAdd, Nat.reduceSub, Array.replicate_succ, Array.replicate_zero, List.push_toArray, List.append_toArray, List.nil_append, List.cons_append]
  refine wpIn_wide.2 ?_
  go_wp2_with (first
    | (go_at_call 64; go_must (refine (allG po no co pt nt ct _).mono ?_; rintro e w3 ⟨rfl, hw3⟩; have S3 := (((S2.out.al #[.int .i64 (-1)] 3 w2.heap.size rfl).al #[.int .i64 0] 3 (w2.heap.size + 1) (by simp)).al #[.slice po no co] 22 (w2.heap.size + 1 + 1) (by simp)).al #[.slice pt nt ct] 22 (w2.heap.size + 1 + 1 + 1) (by simp); rw [← hw3] at S3; have S4 := Lib.hid (S3 : Sep w w3 (halfPc w.heap.size w2.heap.size po no co pt nt ct (-1, 0) false)); clear S3 hw3))
    | (go_at_call 83; go_must (refine (HSo.out _ S0.out.ext).mono ?_; rintro e w2 ⟨rfl, hb⟩; have S2 := Lib.hid (S0.out.call hb); have c4 := (S2.out.blk 1 rfl).cell 0; have c5 := (S2.out.blk 0 rfl).cell 0; have z4 := (S2.out.blk 1 rfl).lt; have z5 := (S2.out.blk 0 rfl).lt; clear hb)))
  clear S0 S2 HSo g0 g5 c4 c5
  generalize w2.heap.size = b at *
  refine wpIn_wide.1 (wpIn_rangeFunc_ownG (F := Fence.wide) (n := 9) rfl (by omega) (gf := 85) (lb := #[.pointer (some ⟨b + 1 + 1, 0, none⟩), .pointer (some ⟨b + 1 + 1 + 1, 0, none⟩)]) rfl trivial (enters_of Tryz.func85 (by kernel_rfl) rfl)
    (all_stops 8 (by omega) (b + 1 + 1) (b + 1 + 1 + 1) w.heap.size po no co pt nt ct O T w3 S4.out.ext.size (S4.out.blk 1 rfl) (S4.out.blk 0 rfl) (HO.out.ext S4.out.ext) (HT.out.ext S4.out.ext) hO0 hT0 HOK.out hct)
    (fun h k => KpA.trans h k) (kpA_b S4.out.ext.size (S4.out.blk 1 rfl).lt (S4.out.blk 0 rfl).lt) (Below.refl _ _) (fun _ => rfl)
    (fun pre W => okFrom ((no:Int) - 1) (-1, 0) (pre.map (·.1)) = true ∧ Sep w W (halfPc w.heap.size b po no co pt nt ct (lastP (-1, 0) (pre.map (·.1))) false))
    (fun c pre W => (c = .ret ∧ okFrom ((no:Int) - 1) (-1, 0) (pre.map (·.1)) = false) ∧ ∃ p, Sep w W (halfPc w.heap.size b po no co pt nt ct p false))
    ?hI ?hIx ⟨rfl, S4.out⟩ ?a1 ?assign ?body ?done ?stop)
  case hI => exact fun s A B row hs hg hr => ⟨hs.1, hs.2.turn (halfPc_cells _ _ _ _ _ _ _ _ _ _) S4.out.ext.size hg hr⟩
  case hIx => exact fun c s A B row hs hg hr => ⟨hs.1, hs.2.elim fun p S => ⟨p, S.turn (halfPc_cells _ _ _ _ _ _ _ _ _ _) S4.out.ext.size hg hr⟩⟩
  case assign =>
    intro l x W K hK
    gi_wp2
    exact hK
  case body =>
    rintro l pre ⟨⟨v, u⟩, hx⟩ W ⟨ho, S⟩ _
    have hsn := okFrom_snoc ((no:Int) - 1) (-1, 0) (pre.map (·.1)) (v, u)
    rw [ho, Bool.true_and] at hsn
    have hls := lastP_snoc (-1, 0) (pre.map (·.1)) (v, u)
    have hm : (pre ++ [(⟨(v, u), hx⟩ : PairOf O T)]).map (·.1) = pre.map (·.1) ++ [(v, u)] := by simp
    rw [← hm] at hsn hls
    obtain ⟨p, hp⟩ : ∃ p, p = lastP (-1, 0) (pre.map (·.1)) := ⟨_, rfl⟩
    rw [← hp] at S hsn
    have HSN := Lib.hid hsn
    have HLS := Lib.hid hls
    have c7 := (S.blk 2 rfl).cell 0
    have c6 := (S.blk 3 rfl).cell 0
    have c5 := (S.blk 4 rfl).cell 0
    have c4 := (S.blk 5 rfl).cell 0
    have f7 := (S.blk 2 rfl).frozen 0
    have f6 := (S.blk 3 rfl).frozen 0
    have f4 := (S.blk 5 rfl).frozen 0
    have z7 := (S.blk 2 rfl).lt
    have z6 := (S.blk 3 rfl).lt
    have z5 := (S.blk 4 rfl).lt
    have z4 := (S.blk 5 rfl).lt
    have y1 : b ≠ b + 1 := by omega
    have HW := Lib.hid (withinG ((no:Int) - 1 - 1) (some ⟨W.heap.size, 0, none⟩) 1 1 [u] _ (Rd.oneI W 3 u))
    have hwd : withB ((no:Int) - 1 - 1) [u] = (decide (0 ≤ u) && decide (u ≤ (no:Int) - 1 - 1)) := by simp [withB]
    have SH := Lib.hid S; clear S
    clear hsn hls hm ho hp S4 HO HT HOK hO0 hT0 hhb
    by_cases hu : 0 ≤ u ∧ u ≤ (no:Int) - 1 - 1
    · rw [hwd, decide_eq_true hu.1, decide_eq_true hu.2] at HW
      have hu2 : decide (u < (no:Int) - 1) = true := by simp; omega
      by_cases hv : v = p.1
      · have e1 : (v == p.1) = true := by simpa using hv
        by_cases hw : u ≤ p.2
        · have e2 : decide (u ≤ p.2) = true := by simpa using hw
          have HF : Hid (okFrom ((no:Int) - 1) (-1, 0) ((pre ++ [(⟨(v, u), hx⟩ : PairOf O T)]).map (·.1)) = false) := by
            unfold Hid; rw [HSN.out]; unfold okStep; simp [hv, hw]
          clear hv hw hwd
          gi_wp2_with (refine ⟨trivial, ?_⟩; gi_at_call 84; refine (CallsIn.inRound l (callsIn_wide.2 HW.out)).mono ?_; rintro e w' ⟨rfl, rfl⟩)
          exact ⟨((KeepsOthers.setCell W _ _).trans (KeepsOthers.alloc _ _)).from _, ⟨rfl, HF.out⟩, p, (SH.out.set 5 rfl 0 (.bool false)).junk _⟩
        · have e2 : decide (u ≤ p.2) = false := by simpa using hw
          have HF : Hid (okFrom ((no:Int) - 1) (-1, 0) ((pre ++ [(⟨(v, u), hx⟩ : PairOf O T)]).map (·.1)) = true) := by
            unfold Hid; rw [HSN.out]; unfold okStep; simp [hu.1, hw]; omega
          clear hv hw hwd
          gi_wp2_with (refine ⟨trivial, ?_⟩; gi_at_call 84; refine (CallsIn.inRound l (callsIn_wide.2 HW.out)).mono ?_; rintro e w' ⟨rfl, rfl⟩)
          have S' := ((SH.out.set 3 rfl 0 (.int .i64 v)).set 2 rfl 0 (.int .i64 u)).junk (.cells #[.int .i64 u] 3)
          exact ⟨(((KeepsOthers.setCell W _ _).trans (KeepsOthers.setCell _ _ _)).trans (KeepsOthers.alloc _ _)).from _, kpA_of SH.out.ext S'.ext (by simp) (SH.out.blk 1 rfl) (SH.out.blk 0 rfl) (S'.blk 1 rfl) (S'.blk 0 rfl), HF.out, by rw [HLS.out]; exact S'⟩
      · have e1 : (v == p.1) = false := by simpa using hv
        have HF : Hid (okFrom ((no:Int) - 1) (-1, 0) ((pre ++ [(⟨(v, u), hx⟩ : PairOf O T)]).map (·.1)) = true) := by
          unfold Hid; rw [HSN.out]; unfold okStep; simp [hu.1, hv]; omega
        clear hv hwd
        gi_wp2_with (refine ⟨trivial, ?_⟩; gi_at_call 84; refine (CallsIn.inRound l (callsIn_wide.2 HW.out)).mono ?_; rintro e w' ⟨rfl, rfl⟩)
        have S' := ((SH.out.set 3 rfl 0 (.int .i64 v)).set 2 rfl 0 (.int .i64 u)).junk (.cells #[.int .i64 u] 3)
        exact ⟨(((KeepsOthers.setCell W _ _).trans (KeepsOthers.setCell _ _ _)).trans (KeepsOthers.alloc _ _)).from _, kpA_of SH.out.ext S'.ext (by simp) (SH.out.blk 1 rfl) (SH.out.blk 0 rfl) (S'.blk 1 rfl) (S'.blk 0 rfl), HF.out, by rw [HLS.out]; exact S'⟩
    · have hwf : withB ((no:Int) - 1 - 1) [u] = false := by
        rw [hwd]
        by_cases h1 : 0 ≤ u
        · simp [h1]; omega
        · simp [h1]
      rw [hwf] at HW
      have HF : Hid (okFrom ((no:Int) - 1) (-1, 0) ((pre ++ [(⟨(v, u), hx⟩ : PairOf O T)]).map (·.1)) = false) := by
        unfold Hid; rw [HSN.out]; unfold okStep
        have : (decide (0 ≤ u) && decide (u < (no:Int) - 1)) = false := by
          by_cases h1 : 0 ≤ u
          · simp [h1]; omega
          · simp [h1]
        simp only [this, Bool.false_and]
      clear hwd hwf
      gi_wp2_with (refine ⟨trivial, ?_⟩; gi_at_call 84; refine (CallsIn.inRound l (callsIn_wide.2 HW.out)).mono ?_; rintro e w' ⟨rfl, rfl⟩)
      exact ⟨((KeepsOthers.setCell W _ _).trans (KeepsOthers.alloc _ _)).from _, ⟨rfl, HF.out⟩, p, (SH.out.set 5 rfl 0 (.bool false)).junk _⟩
  case done =>
    rintro D ys W hD hys ⟨ho, S⟩ hK
    have HF : Hid (halfB O T = true) := by unfold Hid; rw [hhb.out, ← hys]; exact ho
    have c4 := (S.blk 5 rfl).cell 0
    have f4 := (S.blk 5 rfl).frozen 0
    have z4 := (S.blk 5 rfl).lt
    have hKs := (KeepsOthers.setCell W ⟨w.heap.size, 0, none⟩ (.bool true)).same D _ hK rfl
    have S' := (S.set 5 rfl 0 (.bool true)).putObj (halfPc_cells w.heap.size b po no co pt nt ct _ true) (.deferred none) (Nat.le_trans S4.out.ext.size hD) hKs rfl
    have k4 := (S'.blk 5 rfl).cell 0
    have SH := Lib.hid S; clear S
    have SH' := Lib.hid S'; clear S'
    go_wp2
    refine ⟨by simp, .inl ⟨_, _, rfl, run_takeDeferred hKs, ?_⟩⟩
    exact ⟨.bool true, by simp [results, Tryz.results63, go_sem, k4], ret_bool HF.out.symm, SH'.out.ext⟩
  case stop =>
    rintro D c pre W hD hSp ⟨⟨rfl, hno⟩, p, S⟩ hK
    have HF : Hid (halfB O T = false) := by unfold Hid; rw [hhb.out]; exact okFrom_no hno hSp
    have S' := S.putObj (halfPc_cells w.heap.size b po no co pt nt ct _ false) (.deferred none) (Nat.le_trans S4.out.ext.size hD) hK rfl
    have k4 := (S'.blk 5 rfl).cell 0
    have SH := Lib.hid S; clear S
    have SH' := Lib.hid S'; clear S'
    refine wpIn_wide.2 ?_
    go_wp2
    refine ⟨by simp, .inl ⟨_, _, rfl, run_takeDeferred hK, ?_⟩⟩
    exact ⟨.bool false, by simp [results, Tryz.results63, go_sem, k4], ret_bool HF.out.symm, SH'.out.ext⟩
theorem halfG (po : Option Addr) (no co : Nat) (O : List Int) (pt : Option Addr) (nt ct : Nat) (T : List Int) (w : World) (hO : Rd w 1 po no (encI O)) (hT : Rd w 1 pt nt (encI T)) (hct : nt ≤ ct) : Calls Tryz.prog 63 #[.slice po no co, .slice pt nt ct] w fun e w' => e = .returned (.bool (halfB O T)) ∧ Ext w w' := by
  cases h : offB O T with
  | false =>
    have : halfB O T = false := by unfold halfB; rw [h]; rfl
    rw [this]
    exact halfG_no po no co O pt nt ct T w hO hT hct h
  | true => exact halfG_yes po no co O pt nt ct T w hO hT hct h
end Go.Proofs.YthlmcfbadhidbaaGreat
/- The program's Check of rows. -/
namespace Go.Proofs.YthlmcfbadhidbaaGreat
open Go Go.RowKit Go.Shelf Go.Lib
attribute [local go_sem] Oper.semAt_some
theorem BinI (p : Option Addr) (n c : Nat) (l : List Int) (x : Int) (w : World) (hl : Rd w 1 p n (encI l)) (hs : Rises ltI l) (hn : n ≤ 1000000) :
    Calls Tryz.prog 65 #[.slice p n c, .int .i64 x] w fun e w' => e = .returned (.tuple #[.int .i64 (l.countP (· < x) : Nat), .bool (inB l x)]) ∧ Ext w w' := by
  have ln := hl.nI
  have hin : inB l x = l.contains x := by rw [Bool.eq_iff_iff, inB_iff]; simp
  rw [hin]
  rcases hl.ptr with h0 | ⟨b, o, rfl⟩
  · subst h0
    have : l = [] := List.eq_nil_of_length_eq_zero ln.symm
    subst this
    exact (Any.slices_BinarySearch_int_empty Tryz.binI p c x w).mono fun e w' h => ⟨by have := h.1; simpa using this, by rw [h.2]; exact Below.refl _ _⟩
  · have ht : l.take n = l := List.take_of_length_le (by omega)
    have := Any.slices_BinarySearch_int Tryz.binI b o n c l x w (by omega) (by omega) (fun j hj => by
      have h1 := hl.cI (k := j) (by omega)
      rw [adr_some] at h1
      rw [h1, nth_eq hj, List.getD_eq_getElem?_getD, List.getElem?_eq_getElem hj]; rfl) (by rw [ht]; exact hs.imp (fun {a b} h => by simp [ltI] at h; omega))
    rw [ht] at this
    exact this.mono fun e w' h => ⟨h.1, by obtain ⟨q, hq⟩ := h.2; rw [hq]; exact Ext.drewN (Below.refl _ _) q⟩
theorem checkR_no {O T R V : List Int} (h : O.length ≠ R.length ∨ T.length ≠ V.length ∨ halfB O T = false ∨ halfB R V = false) : checkR O T R V = false := by
  unfold checkR
  rcases h with h | h | h | h <;> simp [h]
set_option maxRecDepth 100000 in
set_option maxHeartbeats 4000000 in
theorem CheckR_no (po : Option Addr) (no co : Nat) (O : List Int) (pt : Option Addr) (nt ct : Nat) (T : List Int) (pr : Option Addr) (nr cr : Nat) (R : List Int) (pv : Option Addr) (nv cv : Nat) (V : List Int) (w : World) (hO : Rd w 1 po no (encI O)) (hT : Rd w 1 pt nt (encI T)) (hR : Rd w 1 pr nr (encI R)) (hV : Rd w 1 pv nv (encI V)) (hct : nt ≤ ct) (hcv : nv ≤ cv) (h : no ≠ nr ∨ nt ≠ nv ∨ halfB O T = false ∨ halfB R V = false) :
    Calls Tryz.prog 40 #[.agg #[.slice po no co, .slice pt nt ct, .slice pr nr cr, .slice pv nv cv]] w fun e w' => e = .returned (.bool false) ∧ Ext w w' := by
  have n1 := hO.small
  have n2 := hT.small
  have n3 := hR.small
  have n4 := hV.small
  have S0 := Lib.hid (((Sep.start w).al #[.slice po no co, .slice pt nt ct, .slice pr nr cr, .slice pv nv cv] 24 w.heap.size rfl).al #[.bool false] 4 (w.heap.size + 1) (by simp))
  have HH1 := Lib.hid (fun W1 (h : Ext w W1) => halfG po no co O pt nt ct T W1 (hO.ext h) (hT.ext h) hct)
  have HH2 := Lib.hid (fun W1 (h : Ext w W1) => halfG pr nr cr R pv nv cv V W1 (hR.ext h) (hV.ext h) hcv)
  clear hO hT hR hV
  by_cases h1 : no = nr
  · have d1 : ((no:Int) != (nr:Int)) = false := by simp; omega
    by_cases h2 : nt = nv
    · have d2 : ((nt:Int) != (nv:Int)) = false := by simp; omega
      cases h3 : halfB O T with
      | false =>
        rw [h3] at HH1
        clear h h1 h2 h3
        go_enter Tryz.func40, Tryz.ntmps40
        go_wp2_with (go_at_call 63; go_must (refine (HH1.out _ S0.out.ext).mono ?_; rintro e w1 ⟨rfl, hb⟩; have S1 := Lib.hid (S0.out.call hb); have a0 := (S1.out.blk 1 rfl).cell 0; have a1 := (S1.out.blk 1 rfl).cell 1; have a2 := (S1.out.blk 1 rfl).cell 2; have a3 := (S1.out.blk 1 rfl).cell 3; have za := (S1.out.blk 1 rfl).lt; have b0 := (S1.out.blk 0 rfl).cell 0; have f0 := (S1.out.blk 0 rfl).frozen 0; have zb := (S1.out.blk 0 rfl).lt; clear hb))
        refine bodyPost_ret (v := .bool false) (by simp [results, Tryz.results40, go_sem, b0]) rfl ⟨rfl, (S1.out.set 0 rfl 0 _).ext⟩
      | true =>
        have h4 : halfB R V = false := by
          rcases h with h | h | h | h
          · exact absurd h1 h
          · exact absurd h2 h
          · rw [h3] at h; cases h
          · exact h
        rw [h3] at HH1
        rw [h4] at HH2
        clear h h1 h2 h3 h4
        go_enter Tryz.func40, Tryz.ntmps40
        go_wp2_with (first | (go_at_call 63; have _t := S1; go_must (refine (HH2.out _ S1.out.ext).mono ?_; rintro e w2 ⟨rfl, hb⟩; have S2 := Lib.hid (S1.out.call hb); have A0 := (S2.out.blk 1 rfl).cell 0; have A1 := (S2.out.blk 1 rfl).cell 1; have A2 := (S2.out.blk 1 rfl).cell 2; have A3 := (S2.out.blk 1 rfl).cell 3; have zA := (S2.out.blk 1 rfl).lt; have B0 := (S2.out.blk 0 rfl).cell 0; have F0 := (S2.out.blk 0 rfl).frozen 0; have zB := (S2.out.blk 0 rfl).lt; clear hb)) | (go_at_call 63; go_must (refine (HH1.out _ S0.out.ext).mono ?_; rintro e w1 ⟨rfl, hb⟩; have S1 := Lib.hid (S0.out.call hb); have a0 := (S1.out.blk 1 rfl).cell 0; have a1 := (S1.out.blk 1 rfl).cell 1; have a2 := (S1.out.blk 1 rfl).cell 2; have a3 := (S1.out.blk 1 rfl).cell 3; have za := (S1.out.blk 1 rfl).lt; have b0 := (S1.out.blk 0 rfl).cell 0; have f0 := (S1.out.blk 0 rfl).frozen 0; have zb := (S1.out.blk 0 rfl).lt; clear hb)))
        refine bodyPost_ret (v := .bool false) (by simp [results, Tryz.results40, go_sem, B0]) rfl ⟨rfl, (S2.out.set 0 rfl 0 _).ext⟩
    · have d2 : ((nt:Int) != (nv:Int)) = true := by simp; omega
      clear h h1 h2
      go_enter Tryz.func40, Tryz.ntmps40
      go_wp2
      refine bodyPost_ret (v := .bool false) (by simp [results, Tryz.results40, go_sem]) rfl ⟨rfl, ?_⟩
      first | exact S0.out.ext | exact (S0.out.set 0 rfl 0 _).ext
  · have d1 : ((no:Int) != (nr:Int)) = true := by simp; omega
    clear h h1
    go_enter Tryz.func40, Tryz.ntmps40
    go_wp2
    refine bodyPost_ret (v := .bool false) (by simp [results, Tryz.results40, go_sem]) rfl ⟨rfl, ?_⟩
    first | exact S0.out.ext | exact (S0.out.set 0 rfl 0 _).ext
end Go.Proofs.YthlmcfbadhidbaaGreat
/- The program's Check of rows, where both halves are right: each pair is looked for, turned. -/
namespace Go.Proofs.YthlmcfbadhidbaaGreat
open Go Go.RowKit Go.Shelf Go.Lib
attribute [local go_sem] Oper.semAt_some
def chkPc (a b : Nat) (po : Option Addr) (no co : Nat) (pt : Option Addr) (nt ct : Nat) (pr : Option Addr) (nr cr : Nat) (pv : Option Addr) (nv cv : Nat) (r : Bool) : List Pc :=
  [.blk (b + 1) 22 #[.slice pt nt ct], .blk b 22 #[.slice po no co], .blk (a + 1) 4 #[.bool r], .blk a 24 #[.slice po no co, .slice pt nt ct, .slice pr nr cr, .slice pv nv cv]]
theorem chkPc_cells (a b : Nat) (po : Option Addr) (no co : Nat) (pt : Option Addr) (nt ct : Nat) (pr : Option Addr) (nr cr : Nat) (pv : Option Addr) (nv cv : Nat) (r : Bool) : ∀ q ∈ chkPc a b po no co pt nt ct pr nr cr pv nv cv r, q.cells :=
  cells_all fun q hq => by simp [chkPc] at hq; rcases hq with h | h | h | h <;> exact .inl ⟨_, _, _, h⟩
/-- the pair stands in the other rows, turned -/
def backB (R V : List Int) (x : Int × Int) : Bool := inB (rowL R V x.2.toNat) x.1
theorem pair_bd {O T : List Int} (h : halfB O T = true) {x : Int × Int} (hx : x ∈ pairs O T) : 0 ≤ x.1 ∧ x.1 < ((O.length - 1 : Nat) : Int) ∧ 0 ≤ x.2 ∧ x.2 < ((O.length - 1 : Nat) : Int) := by
  obtain ⟨v, h1, h2, h3⟩ := mem_pairs.1 hx
  unfold halfB at h
  rw [Bool.and_eq_true] at h
  have := List.all_eq_true.1 h.2 v (List.mem_range.2 h1)
  have := (okRow_iff.1 this).1 _ h3
  omega
theorem row_rises {O T : List Int} (h : halfB O T = true) {v : Nat} (hv : v < O.length - 1) : Rises ltI (rowL O T v) := by
  unfold halfB at h
  rw [Bool.and_eq_true] at h
  exact (okRow_iff.1 (List.all_eq_true.1 h.2 v (List.mem_range.2 hv))).2
theorem halfB_off {O T : List Int} (h : halfB O T = true) : offB O T = true := by
  unfold halfB at h
  rw [Bool.and_eq_true] at h
  exact h.1
set_option maxRecDepth 100000 in
set_option maxHeartbeats 4000000 in
theorem CheckR_yes (po : Option Addr) (no co : Nat) (O : List Int) (pt : Option Addr) (nt ct : Nat) (T : List Int) (pr : Option Addr) (nr cr : Nat) (R : List Int) (pv : Option Addr) (nv cv : Nat) (V : List Int) (w : World) (hO : Rd w 1 po no (encI O)) (hT : Rd w 1 pt nt (encI T)) (hR : Rd w 1 pr nr (encI R)) (hV : Rd w 1 pv nv (encI V)) (hct : nt ≤ ct) (hcv : nv ≤ cv) (e1 : no = nr) (e2 : nt = nv) (h1 : halfB O T = true) (h2 : halfB R V = true) :
    Calls Tryz.prog 40 #[.agg #[.slice po no co, .slice pt nt ct, .slice pr nr cr, .slice pv nv cv]] w fun e w' => e = .returned (.bool ((pairs O T).all (backB R V))) ∧ Ext w w' := by
  have n1 := hO.small
  have n2 := hT.small
  have n3 := hR.small
  have n4 := hV.small
  have l1 := hO.nI
  have l2 := hT.nI
  have l3 := hR.nI
  have l4 := hV.nI
  have pR := hR.ptr
  have S0 := Lib.hid (((Sep.start w).al #[.slice po no co, .slice pt nt ct, .slice pr nr cr, .slice pv nv cv] 24 w.heap.size rfl).al #[.bool false] 4 (w.heap.size + 1) (by simp))
  have HH1 := Lib.hid (fun W1 (h : Ext w W1) => halfG po no co O pt nt ct T W1 (hO.ext h) (hT.ext h) hct)
  have HH2 := Lib.hid (fun W1 (h : Ext w W1) => halfG pr nr cr R pv nv cv V W1 (hR.ext h) (hV.ext h) hcv)
  rw [h1] at HH1
  rw [h2] at HH2
  have d1 : ((no:Int) != (nr:Int)) = false := by simp; omega
  have d2 : ((nt:Int) != (nv:Int)) = false := by simp; omega
  have HOK := Lib.hid (offOk_of (halfB_off h1))
  have HOK2 := Lib.hid (offOk_of (halfB_off h2))
  have HPB := Lib.hid (fun x (hx : x ∈ pairs O T) => pair_bd h1 hx)
  have HRR := Lib.hid (fun v (hv : v < R.length - 1) => row_rises h2 hv)
  have r3 := (offB_parts (halfB_off h2)).2.2.1
  have hO0 : 0 < no → (adr po 0).block < w.heap.size := fun h => hO.lt (by omega)
  have hT0 : 0 < nt → (adr pt 0).block < w.heap.size := fun h => hT.lt (by omega)
  have L1 := Lib.hid l1
  have L3 := Lib.hid l3
  have L4 := Lib.hid l4
  have E1 := Lib.hid e1
  have E2 := Lib.hid e2
  have HO := Lib.hid hO; clear hO
  have HT := Lib.hid hT; clear hT
  have HR := Lib.hid hR; clear hR
  have HV := Lib.hid hV; clear hV
  clear h1 h2 l1 l2 l3 l4 e1 e2
  refine (callsIn_wide (n := 9)).1 ?_
  refine callsIn_of_wp_marks Tryz.func40 rfl trivial ?_ rfl
  simp only [Tryz.ntmps40, List.size_toArray, List.length_cons, List.length_nil, Nat.reduceAdd, Nat.reduceSub, Array.replicate_succ, Array.replicate_zero, List.push_toArray, List.append_toArray, List.nil_append, List.cons_append]
  refine wpIn_wide.2 ?_
  go_wp2_with (first
    | (go_at_call 64; go_must (refine (allG po no co pt nt ct _).mono ?_; rintro e w3 ⟨rfl, hw3⟩; have S3 := (S2.out.al #[.slice po no co] 22 w2.heap.size rfl).al #[.slice pt nt ct] 22 (w2.heap.size + 1) (by simp); rw [← hw3] at S3; have S4 := Lib.hid (S3 : Sep w w3 (chkPc w.heap.size w2.heap.size po no co pt nt ct pr nr cr pv nv cv false)); clear S3 hw3))
    | (go_at_call 63; have _t := S1; go_must (refine (HH2.out _ S1.out.ext).mono ?_; rintro e w2 ⟨rfl, hb⟩; have S2 := Lib.hid (S1.out.call hb); have A0 := (S2.out.blk 1 rfl).cell 0; have A1 := (S2.out.blk 1 rfl).cell 1; have zA := (S2.out.blk 1 rfl).lt; clear hb))
    | (go_at_call 63; go_must (refine (HH1.out _ S0.out.ext).mono ?_; rintro e w1 ⟨rfl, hb⟩; have S1 := Lib.hid (S0.out.call hb); have a2 := (S1.out.blk 1 rfl).cell 2; have a3 := (S1.out.blk 1 rfl).cell 3; have za := (S1.out.blk 1 rfl).lt; clear hb)))
  clear S0 S1 S2 HH1 HH2 A0 A1 a2 a3
  generalize w2.heap.size = b at *
  refine wpIn_wide.1 (wpIn_rangeFunc_ownG (F := Fence.wide) (n := 9) rfl (by omega) (gf := 85) (lb := #[.pointer (some ⟨b, 0, none⟩), .pointer (some ⟨b + 1, 0, none⟩)]) rfl trivial (enters_of Tryz.func85 (by kernel_rfl) rfl)
    (all_stops 8 (by omega) b (b + 1) w.heap.size po no co pt nt ct O T w3 S4.out.ext.size (S4.out.blk 1 rfl) (S4.out.blk 0 rfl) (HO.out.ext S4.out.ext) (HT.out.ext S4.out.ext) hO0 hT0 HOK.out hct)
    (fun h k => KpA.trans h k) (kpA_b S4.out.ext.size (S4.out.blk 1 rfl).lt (S4.out.blk 0 rfl).lt) (Below.refl _ _) (fun _ => rfl)
    (fun pre W => (pre.map (·.1)).all (backB R V) = true ∧ Sep w W (chkPc w.heap.size b po no co pt nt ct pr nr cr pv nv cv false))
    (fun c pre W => (c = .ret ∧ (pre.map (·.1)).all (backB R V) = false) ∧ Sep w W (chkPc w.heap.size b po no co pt nt ct pr nr cr pv nv cv false))
    ?hI ?hIx ⟨rfl, S4.out⟩ ?a1 ?assign ?body ?done ?stop)
  case hI => exact fun s A B row hs hg hr => ⟨hs.1, hs.2.turn (chkPc_cells _ _ _ _ _ _ _ _ _ _ _ _ _ _ _) S4.out.ext.size hg hr⟩
  case hIx => exact fun c s A B row hs hg hr => ⟨hs.1, hs.2.turn (chkPc_cells _ _ _ _ _ _ _ _ _ _ _ _ _ _ _) S4.out.ext.size hg hr⟩
  case assign =>
    intro l x W K hK
    gi_wp2
    exact hK
  case body =>
    rintro l pre ⟨⟨v, u⟩, hx⟩ W ⟨ho, S⟩ _
    have hm : (pre ++ [(⟨(v, u), hx⟩ : PairOf O T)]).map (·.1) = pre.map (·.1) ++ [(v, u)] := by simp
    have hsn : ((pre ++ [(⟨(v, u), hx⟩ : PairOf O T)]).map (·.1)).all (backB R V) = backB R V (v, u) := by rw [hm, List.all_append, ho]; simp
    have HSN := Lib.hid hsn
    obtain ⟨x1, x2, x3, x4⟩ := HPB.out _ hx
    simp only at x1 x2 x3 x4
    obtain ⟨k, rfl⟩ : ∃ k : Nat, u = (k : Int) := ⟨u.toNat, by omega⟩
    have hk1 : k + 1 < R.length := by have := L1.out; have := L3.out; have := E1.out; omega
    have hk2 : k + 1 < nr := by rw [L3.out]; exact hk1
    have q1 := HOK2.out.lo k (by omega)
    have q2 := HOK2.out.le k hk1
    have q3 := HOK2.out.hi (k + 1) hk1
    have RR := HR.out.ext S.ext
    have g1 := RR.cI (k := k) (by omega)
    have g2 := RR.cI (k := k + 1) (by omega)
    have RL := (HV.out.ext S.ext).rowOf HOK2.out hcv hk1
    have hrs := HRR.out k (by omega)
    have hbk : backB R V (v, (k:Int)) = inB (rowL R V k) v := by unfold backB; simp
    obtain ⟨a, ha⟩ : ∃ a : Nat, nth R k = (a : Int) := ⟨(nth R k).toNat, by omega⟩
    obtain ⟨c, hc⟩ : ∃ c : Nat, nth R (k + 1) = (c : Int) := ⟨(nth R (k + 1)).toNat, by omega⟩
    rw [ha] at g1 q1 q2 RL
    rw [hc] at g2 q2 q3 RL
    have hq3 : (c:Int) ≤ cv := by have := L4.out; omega
    simp only [Int.toNat_natCast] at RL
    have HB := Lib.hid (fun x : ExtOf W => BinI (cutp pv cv a 1) (c - a) (cv - a) (rowL R V k) v x.val (RL.ext x.ext) hrs (by have := L4.out; omega))
    have c0 := (S.blk 3 rfl).cell 2
    have c1 := (S.blk 3 rfl).cell 3
    have c4 := (S.blk 2 rfl).cell 0
    have f4 := (S.blk 2 rfl).frozen 0
    have z4 := (S.blk 2 rfl).lt
    have d3 : (0:Int) ≤ k := by omega
    have d4 : (k:Int) < nr := by omega
    have d5 : (0:Int) ≤ (k:Int) + 1 := by omega
    have d6 : (k:Int) + 1 < nr := by omega
    rw [hbk] at HSN
    have SH := Lib.hid S; clear S
    clear hsn hm ho S4 HO HT HR HV HOK HOK2 hO0 hT0 HPB HRR RR RL ha hc hrs hbk x1 x2 x3 x4 q3
    cases hin : inB (rowL R V k) v with
    | true =>
      rw [hin] at HB HSN
      clear hin
      gi_wp2
      have y0 := fun x : ExtOf W => x.ext.cell c0
      have y1 := fun x : ExtOf W => x.ext.cell c1
      have y2 := fun x : ExtOf W => x.ext.cell g1
      have y3 := fun x : ExtOf W => x.ext.cell g2
      refine wpIn_region_ext (by kernel_rfl) (by kernel_rfl) (by kernel_rfl) ?_
      repeat (go_big_quiet_step ((go_at_call 65; exact Calls.ext_of (HB.out _))))
      refine wpQuiet_nil ?_
      rintro w5 ⟨⟨_, hb5⟩, rfl⟩
      have S5 := Lib.hid (SH.out.call hb5)
      clear y0 y1 y2 y3
      gi_wp2
      exact ⟨(keeps_ext hb5).from _, kpA_of SH.out.ext S5.out.ext hb5.size (SH.out.blk 1 rfl) (SH.out.blk 0 rfl) (S5.out.blk 1 rfl) (S5.out.blk 0 rfl), HSN.out, S5.out⟩
    | false =>
      rw [hin] at HB HSN
      clear hin
      gi_wp2
      have y0 := fun x : ExtOf W => x.ext.cell c0
      have y1 := fun x : ExtOf W => x.ext.cell c1
      have y2 := fun x : ExtOf W => x.ext.cell g1
      have y3 := fun x : ExtOf W => x.ext.cell g2
      refine wpIn_region_ext (by kernel_rfl) (by kernel_rfl) (by kernel_rfl) ?_
      repeat (go_big_quiet_step ((go_at_call 65; exact Calls.ext_of (HB.out _))))
      refine wpQuiet_nil ?_
      rintro w5 ⟨⟨_, hb5⟩, rfl⟩
      have S5 := Lib.hid (SH.out.call hb5)
      have k4 := (S5.out.blk 2 rfl).cell 0
      have kf := (S5.out.blk 2 rfl).frozen 0
      have kz := (S5.out.blk 2 rfl).lt
      clear y0 y1 y2 y3 c4 f4 z4
      gi_wp2
      exact ⟨((keeps_ext hb5).trans (KeepsOthers.setCell _ _ _)).from _, ⟨rfl, HSN.out⟩, S5.out.set 2 rfl 0 (.bool false)⟩
  case done =>
    rintro D ys W hD hys ⟨ho, S⟩ hK
    have HF : Hid ((pairs O T).all (backB R V) = true) := by unfold Hid; rw [← hys]; exact ho
    have c4 := (S.blk 2 rfl).cell 0
    have f4 := (S.blk 2 rfl).frozen 0
    have z4 := (S.blk 2 rfl).lt
    have hKs := (KeepsOthers.setCell W ⟨w.heap.size + 1, 0, none⟩ (.bool true)).same D _ hK rfl
    have S' := (S.set 2 rfl 0 (.bool true)).putObj (chkPc_cells w.heap.size b po no co pt nt ct pr nr cr pv nv cv true) (.deferred none) (Nat.le_trans S4.out.ext.size hD) hKs rfl
    have k4 := (S'.blk 2 rfl).cell 0
    have SH := Lib.hid S; clear S
    have SH' := Lib.hid S'; clear S'
    go_wp2
    refine ⟨by simp, .inl ⟨_, _, rfl, run_takeDeferred hKs, ?_⟩⟩
    exact ⟨.bool true, by simp [results, Tryz.results40, go_sem, k4], ret_bool HF.out.symm, SH'.out.ext⟩
  case stop =>
    rintro D c pre W hD hSp ⟨⟨rfl, hno⟩, S⟩ hK
    have HF : Hid ((pairs O T).all (backB R V) = false) := by
      obtain ⟨t, ht⟩ := hSp
      unfold Hid; rw [← ht, List.all_append, hno]; rfl
    have S' := S.putObj (chkPc_cells w.heap.size b po no co pt nt ct pr nr cr pv nv cv false) (.deferred none) (Nat.le_trans S4.out.ext.size hD) hK rfl
    have k4 := (S'.blk 2 rfl).cell 0
    have SH := Lib.hid S; clear S
    have SH' := Lib.hid S'; clear S'
    refine wpIn_wide.2 ?_
    go_wp2
    refine ⟨by simp, .inl ⟨_, _, rfl, run_takeDeferred hK, ?_⟩⟩
    exact ⟨.bool false, by simp [results, Tryz.results40, go_sem, k4], ret_bool HF.out.symm, SH'.out.ext⟩
theorem CheckR (po : Option Addr) (no co : Nat) (O : List Int) (pt : Option Addr) (nt ct : Nat) (T : List Int) (pr : Option Addr) (nr cr : Nat) (R : List Int) (pv : Option Addr) (nv cv : Nat) (V : List Int) (w : World) (hO : Rd w 1 po no (encI O)) (hT : Rd w 1 pt nt (encI T)) (hR : Rd w 1 pr nr (encI R)) (hV : Rd w 1 pv nv (encI V)) (hct : nt ≤ ct) (hcv : nv ≤ cv) : Calls Tryz.prog 40 #[.agg #[.slice po no co, .slice pt nt ct, .slice pr nr cr, .slice pv nv cv]] w fun e w' => e = .returned (.bool (checkR O T R V)) ∧ Ext w w' := by
  have l1 := hO.nI
  have l2 := hT.nI
  have l3 := hR.nI
  have l4 := hV.nI
  by_cases h : no ≠ nr ∨ nt ≠ nv ∨ halfB O T = false ∨ halfB R V = false
  · rw [checkR_no (by rw [← l1, ← l2, ← l3, ← l4]; exact h)]
    exact CheckR_no po no co O pt nt ct T pr nr cr R pv nv cv V w hO hT hR hV hct hcv h
  · have h1 : no = nr := by
      by_cases h1 : no = nr
      · exact h1
      · exact absurd (.inl h1) h
    have h2 : nt = nv := by
      by_cases h2 : nt = nv
      · exact h2
      · exact absurd (.inr (.inl h2)) h
    have h3 : halfB O T = true := by
      cases h3 : halfB O T with
      | true => rfl
      | false => exact absurd (.inr (.inr (.inl h3))) h
    have h4 : halfB R V = true := by
      cases h4 : halfB R V with
      | true => rfl
      | false => exact absurd (.inr (.inr (.inr h4))) h
    have : checkR O T R V = (pairs O T).all (backB R V) := by
      unfold checkR
      rw [h3, h4, ← l1, ← l2, ← l3, ← l4, h1, h2]
      simp only [decide_true, Bool.true_and]
      rfl
    rw [this]
    exact CheckR_yes po no co O pt nt ct T pr nr cr R pv nv cv V w hO hT hR hV hct hcv h1 h2 h3 h4
end Go.Proofs.YthlmcfbadhidbaaGreat
/- The program's rows of a place: row, Out, In, Has. -/
namespace Go.Proofs.YthlmcfbadhidbaaGreat
open Go Go.RowKit Go.Shelf Go.Lib
/-- is a place told, by these offsets? -/
def outB (b : Bool) (A : List Int) (v : Int) : Bool := b && decide (0 ≤ v) && decide (v < (A.length : Int) - 1)
def outL (b : Bool) (A B : List Int) (v : Int) : List Int := if outB b A v = true then rowL A B v.toNat else []
theorem outL_no {b : Bool} {A B : List Int} {v : Int} (h : outB b A v = false) : outL b A B v = [] := by unfold outL; rw [h]; rfl
theorem outL_yes {b : Bool} {A B : List Int} {v : Int} (h : outB b A v = true) : outL b A B v = rowL A B v.toNat := by unfold outL; rw [h]; rfl
theorem checkR_half {O T R V : List Int} (h : checkR O T R V = true) : O.length = R.length ∧ T.length = V.length ∧ halfB O T = true ∧ halfB R V = true := by
  unfold checkR at h
  simp only [Bool.and_eq_true, decide_eq_true_eq] at h
  exact ⟨h.1.1.1.1, h.1.1.1.2, h.1.1.2, h.1.2⟩
/-- is there an edge? -/
def hasB (b : Bool) (A B : List Int) (v u : Int) : Bool := outB b A v && inB (outL b A B v) u
theorem outL_len {O T R V A B : List Int} {v : Int} (hB : B.length ≤ 9223372036854775807) : (outL (checkR O T R V) A B v).length ≤ 9223372036854775807 := by
  unfold outL
  split
  · unfold rowL; rw [List.length_take, List.length_drop]; omega
  · simp
end Go.Proofs.YthlmcfbadhidbaaGreat
/- The reference's rows: in, row. -/
namespace Go.Proofs.YthlmcfbadhidbaaGreat
open Go Go.RowKit
theorem In04x (p : Option Addr) (n c : Nat) (l : List Int) (x : Int) (w : World) (hl : Rd w 1 p n (encI l)) :
    Calls Tryz.prog 70 #[.slice p n c, .int .i64 x] w fun e w' => e = .returned (.bool (inB l x)) ∧ Ext w w' := by
  have p1 := hl.ptr
  have n1 := hl.small
  have L1 := Lib.hid hl.nI
  have HL := Lib.hid hl; clear hl
  go_enter Tryz.func70, Tryz.ntmps70
  go_wp2
  go_loop [5] (fun i => ∃ k : Nat, k ≤ n ∧ i = .int .i64 k ∧ (l.take k).any (fun y => y == x) = false) (fun i => n - (intOf i).toNat)
  case atStart => exact ⟨0, Nat.zero_le _, rfl, rfl⟩
  case round =>
    obtain ⟨k, hk, rfl, ha⟩ := hrel
    have HA := Lib.hid ha; clear ha
    by_cases hlt : k < n
    · have g1 := HL.out.cI hlt
      have d1 : (0:Int) ≤ k := by omega
      have d2 : (k:Int) < n := by omega
      have hkL : k < l.length := by rw [← L1.out]; exact hlt
      cases hq : (nth l k == x) with
      | true =>
        have HF : Hid (inB l x = true) := any_true_at (fun y : Int => y == x) l k hkL hq
        go_wp2
        go_ret
        exact ⟨ret_bool HF.out.symm, Below.refl _ _⟩
      | false =>
        have HF := Lib.hid (any_step (fun y : Int => y == x) l k hkL HA.out hq)
        go_wp2
        go_round
        case rel => exact ⟨k + 1, by omega, by go_num, HF.out⟩
        case measure => simp [intOf]; omega
    · have HF : Hid (inB l x = false) := any_end (fun y : Int => y == x) l k (by rw [← L1.out]; exact hlt) HA.out
      go_wp2
      go_ret
      exact ⟨ret_bool HF.out.symm, Below.refl _ _⟩
set_option maxRecDepth 100000 in
set_option maxHeartbeats 2000000 in
theorem row04 (po : Option Addr) (no co : Nat) (O : List Int) (pt : Option Addr) (nt ct : Nat) (T : List Int) (k : Nat) (w : World) (hO : Rd w 1 po no (encI O)) (hT : Rd w 1 pt nt (encI T)) (hct : nt ≤ ct) (hok : OffOk O T) (hk1 : k + 1 < O.length) (hlen : T.length ≤ 100000) :
    Calls Tryz.prog 69 #[.slice po no co, .slice pt nt ct, .int .i64 k] w fun e w' => ∃ q c, e = .returned (.slice q (rowL O T k).length c) ∧ Sep w w' [.own 3 1 q (rowL O T k).length c (encI (rowL O T k))] := by
  have na1 := hO.small
  have l1 := hO.nI
  have l2 := hT.nI
  have pA := hO.ptr
  have q1 := hok.lo k (by omega)
  have q2 := hok.le k hk1
  have q3 := hok.hi (k + 1) hk1
  have hrl := rowL_len hok hk1
  have RL0 := hT.rowOf hok hct hk1
  have g1 := hO.cI (k := k) (by omega)
  have g2 := hO.cI (k := k + 1) (by omega)
  obtain ⟨a, ha⟩ : ∃ a : Nat, nth O k = (a : Int) := ⟨(nth O k).toNat, by omega⟩
  obtain ⟨c, hc⟩ : ∃ c : Nat, nth O (k + 1) = (c : Int) := ⟨(nth O (k + 1)).toNat, by omega⟩
  rw [ha] at q1 q2 hrl RL0 g1
  rw [hc] at q2 q3 hrl RL0 g2
  simp only [Int.toNat_natCast] at hrl RL0
  have hq3 : (c:Int) ≤ ct := by omega
  have HLEN : Hid (c - a ≤ 1000000) := by unfold Hid; omega
  have d1 : (0:Int) ≤ k := by omega
  have d2 : (k:Int) < no := by omega
  have d3 : (0:Int) ≤ (k:Int) + 1 := by omega
  have d4 : (k:Int) + 1 < no := by omega
  have HRL := Lib.hid hrl
  have RL := Lib.hid RL0
  clear hO hT hok ha hc hrl RL0 hlen l1 l2 q3 hk1
  rw [HRL.out]
  go_enter Tryz.func69, Tryz.ntmps69
  go_wp2
  have x1 := fun x : ExtOf w => x.ext.cell g1
  have x2 := fun x : ExtOf w => x.ext.cell g2
  refine wp_region_mix [true, true, true, true, true, true, true, true, true, true, true, false] (fun _ u W => ∃ q d, u = .slice q (c - a) d ∧ W.ownsRow w.heap.size 3 1 (.slice q (c - a) d) (c - a) (encI (rowL O T k))) (by kernel_rfl) (by kernel_rfl) (by kernel_rfl) (fun _ _ _ _ hE ⟨p, d, h1, h2⟩ => ⟨p, d, h1, hE.own h2⟩) ?_
  simp only [nfM]
  repeat (go_big_quiet_step ((fail)))
  refine wpQuiet_nil ⟨⟨fun vs W hE hd => ?_, trivial⟩, fun vs W hE hkn => ?_⟩
  · simp [putM, go_sem]
    exact (OwnI01 _ (c - a) _ (rowL O T k) W (RL.out.ext hE) HLEN.out).mono fun e w' ⟨q, d, h1, S⟩ => ⟨_, h1, ⟨q, d, rfl, own_base (S.own 0 rfl) hE.size⟩, S.ext⟩
  · obtain ⟨⟨q, d, hv, hown⟩, _⟩ := hkn
    have S5 := Lib.hid ((Sep.start w).fresh hE hown (Nat.le_refl _))
    simp only [putM, hv, List.length_cons, List.length_nil, Nat.zero_add, Nat.reduceAdd, List.drop_succ_cons, List.drop_zero]
    clear x1 x2 g1 g2 hv hown hE
    go_wp2
    go_ret
    exact ⟨q, d, rfl, S5.out⟩
end Go.Proofs.YthlmcfbadhidbaaGreat
/- The reference's half: offsets and numbers that are right by themselves. -/
namespace Go.Proofs.YthlmcfbadhidbaaGreat
open Go Go.RowKit
theorem halfB_no1 {O T : List Int} (h : ¬ (2 ≤ O.length ∧ O.length ≤ 201 ∧ T.length ≤ 2000 ∧ nth O 0 = 0 ∧ nth O (O.length - 1) = T.length ∧ sortB O = true)) : halfB O T = false := by
  cases h1 : halfB O T with
  | false => rfl
  | true => exact absurd (offB_parts (by unfold halfB at h1; rw [Bool.and_eq_true] at h1; exact h1.1)) h
theorem halfB_no2 {O T : List Int} {v : Nat} (hv : v < O.length - 1) (h : okRow ((O.length - 1 : Nat) : Int) (rowL O T v) = false) : halfB O T = false := by
  unfold halfB
  rw [range_all_no _ _ v hv h, Bool.and_false]
set_option maxRecDepth 100000 in
set_option maxHeartbeats 8000000 in
theorem half04 (po : Option Addr) (no co : Nat) (O : List Int) (pt : Option Addr) (nt ct : Nat) (T : List Int) (w : World) (hO : Rd w 1 po no (encI O)) (hT : Rd w 1 pt nt (encI T)) : Calls Tryz.prog 68 #[.slice po no co, .slice pt nt ct] w fun e w' => e = .returned (.bool (halfB O T)) ∧ Ext w w' := by
  have pO := hO.ptr
  have pT := hT.ptr
  have n1 := hO.small
  have n2 := hT.small
  have l1 := Lib.hid hO.nI
  have l2 := Lib.hid hT.nI
  have HNO := Lib.hid (fun h => halfB_no1 (O := O) (T := T) h)
  by_cases h1 : no < 2
  · have d1 : decide ((no:Int) < 2) = true := by simp; omega
    have HF : Hid (halfB O T = false) := HNO.out (by rw [← l1.out]; omega)
    clear hO hT
    go_enter Tryz.func68, Tryz.ntmps68
    go_wp2
    go_ret
    exact ⟨ret_bool HF.out.symm, Below.refl _ _⟩
  · have d1 : decide ((no:Int) < 2) = false := by simp; omega
    by_cases h2 : 201 < no
    · have d2 : decide ((201:Int) < no) = true := by simp; omega
      have HF : Hid (halfB O T = false) := HNO.out (by rw [← l1.out]; omega)
      clear hO hT
      go_enter Tryz.func68, Tryz.ntmps68
      go_wp2
      go_ret
      exact ⟨ret_bool HF.out.symm, Below.refl _ _⟩
    · have d2 : decide ((201:Int) < no) = false := by simp; omega
      have g0 := hO.cI (k := 0) (by omega)
      have q1 : (0:Int) < no := by omega
      have g5 := hO.cI (k := no - 1) (by omega)
      have q2 : (0:Int) ≤ (no:Int) - 1 := by omega
      have q2b : (1:Int) ≤ (no:Int) := by omega
      have q3 : (no:Int) - 1 < no := by omega
      by_cases h4 : nth O 0 = 0
      · have d4 : (nth O 0 != 0) = false := by simpa using h4
        by_cases h5 : nth O (no - 1) = nt
        · have d5 : (nth O (no - 1) != (nt:Int)) = false := by simpa using h5
          by_cases h3 : 2000 < nt
          · have d3 : decide ((2000:Int) < nt) = true := by simp; omega
            have HF : Hid (halfB O T = false) := HNO.out (by rw [← l2.out]; omega)
            clear hO hT
            go_enter Tryz.func68, Tryz.ntmps68
            go_wp2
            go_ret
            exact ⟨ret_bool HF.out.symm, Below.refl _ _⟩
          · have d3 : decide ((2000:Int) < nt) = false := by simp; omega
            have HOFF : Hid (sortB O = true → offB O T = true) := fun h6 => by
              unfold offB
              rw [h6, h4]
              rw [← l1.out, ← l2.out, h5]
              simp; omega
            have HO := Lib.hid hO; clear hO
            have HT := Lib.hid hT; clear hT
            have h4' := Lib.hid h4
            have h5' := Lib.hid h5
            clear h4 h5
            go_enter Tryz.func68, Tryz.ntmps68
            go_wp2
            go_loopw [5] (fun i wr => ∃ v : Nat, 1 ≤ v ∧ v ≤ no ∧ i = .int .i64 v ∧ (∀ u, u + 1 < v → nth O u ≤ nth O (u + 1)) ∧ Ext w wr) (fun i _ => no - (intOf i).toNat)
            case atStart => exact ⟨1, Nat.le_refl _, by omega, rfl, fun u hu => by omega, Below.refl _ _⟩
            case round =>
              obtain ⟨v, hv1, hv, rfl, ha, hE⟩ := hrel
              have HA := Lib.hid ha; clear ha
              by_cases hlt : v < no
              · have c1 := hE.cell (HO.out.cI hlt)
                have c0 := hE.cell (HO.out.cI (k := v - 1) (by omega))
                have e1 : (0:Int) ≤ v := by omega
                have e2 : (v:Int) < no := by omega
                have e3 : (1:Int) ≤ (v:Int) := by omega
                have e4 : (v:Int) - 1 < no := by omega
                have e5 : (0:Int) ≤ (v:Int) - 1 := by omega
                have HE := Lib.hid hE; clear hE
                by_cases hs : nth O v < nth O (v - 1)
                · have b1 : decide (nth O v < nth O (v - 1)) = true := by simpa using hs
                  have HF : Hid (halfB O T = false) := HNO.out (fun h => by
                    have := sortB_at h.2.2.2.2.2 (v := v - 1) (by rw [← l1.out]; omega)
                    rw [show v - 1 + 1 = v by omega] at this; omega)
                  go_wp2
                  have x1 := fun x : ExtOf wr => x.ext.cell c1
                  have x0 := fun x : ExtOf wr => x.ext.cell c0
                  refine wp_region_ext (by kernel_rfl) (by kernel_rfl) ?_
                  repeat (go_big_quiet_step ((fail)))
                  refine wpQuiet_nil ?_
                  rintro w1 ⟨⟨_, hb1⟩, rfl⟩
                  go_wp2
                  go_ret
                  exact ⟨ret_bool HF.out.symm, Ext.trans HE.out hb1⟩
                · have b1 : decide (nth O v < nth O (v - 1)) = false := by simpa using hs
                  go_wp2
                  have x1 := fun x : ExtOf wr => x.ext.cell c1
                  have x0 := fun x : ExtOf wr => x.ext.cell c0
                  refine wp_region_ext (by kernel_rfl) (by kernel_rfl) ?_
                  repeat (go_big_quiet_step ((fail)))
                  refine wpQuiet_nil ?_
                  rintro w1 ⟨⟨_, hb1⟩, rfl⟩
                  go_wp2
                  go_roundw
                  case rel => exact ⟨v + 1, by omega, by omega, by go_num, fun u hu => by
                    by_cases h : u + 1 = v
                    · have : v - 1 = u := by omega
                      rw [this] at hs; rw [h]; omega
                    · exact HA.out u (by omega), Ext.trans HE.out hb1⟩
                  case measure => simp [intOf]; omega
              · have hso : sortB O = true := by
                  unfold sortB
                  rw [List.all_eq_true]
                  intro u hu
                  rw [List.mem_range] at hu
                  exact decide_eq_true (HA.out u (by have := l1.out; omega))
                have HOF := Lib.hid (HOFF.out hso)
                have HOK := Lib.hid (offOk_of HOF.out)
                clear hso HA
                have HE := Lib.hid hE; clear hE
                go_wp2
                go_loopw [6, 7] (fun i _ wr => ∃ v : Nat, 1 ≤ v ∧ v ≤ no ∧ i = .int .i64 v ∧ (∀ u, u + 1 < v → okRow ((O.length - 1 : Nat) : Int) (rowL O T u) = true) ∧ Ext w wr) (fun i _ _ => no - (intOf i).toNat)
                case atStart => exact ⟨1, Nat.le_refl _, by omega, rfl, fun u hu => by omega, HE.out⟩
                case round =>
                  clear HE hlt hv1 hv
                  obtain ⟨v, hv1, hv, rfl, ha, hE⟩ := hrel
                  have HA := Lib.hid ha; clear ha
                  by_cases hlt : v < no
                  · have hvL : v - 1 + 1 < O.length := by have := l1.out; omega
                    have q1' := HOK.out.lo (v - 1) (by omega)
                    have q2' := HOK.out.le (v - 1) hvL
                    have q3' := HOK.out.hi (v - 1 + 1) hvL
                    rw [show v - 1 + 1 = v by omega] at q2' q3'
                    have hrl := rowL_len HOK.out hvL
                    rw [show v - 1 + 1 = v by omega] at hrl
                    have c1 := hE.cell (HO.out.cI hlt)
                    have c0 := hE.cell (HO.out.cI (k := v - 1) (by omega))
                    have hnth := Lib.hid (fun j (hj : j < (rowL O T (v - 1)).length) => rowL_nth (O := O) (T := T) (v := v - 1) hj)
                    obtain ⟨a, hA⟩ : ∃ a : Nat, nth O (v - 1) = (a : Int) := ⟨(nth O (v - 1)).toNat, by omega⟩
                    obtain ⟨b, hB⟩ : ∃ b : Nat, nth O v = (b : Int) := ⟨(nth O v).toNat, by omega⟩
                    rw [hA] at c0 q1' q2' hrl hnth
                    rw [hB] at c1 q2' q3' hrl
                    simp only [Int.toNat_natCast] at hrl hnth
                    have hbn : b ≤ nt := by have := l2.out; omega
                    have hab : a ≤ b := by omega
                    have e1 : (0:Int) ≤ v := by omega
                    have e2 : (v:Int) < no := by omega
                    have e3 : (1:Int) ≤ (v:Int) := by omega
                    have e4 : (v:Int) - 1 < no := by omega
                    have e5 : (0:Int) ≤ (v:Int) - 1 := by omega
                    have hn' : ((O.length - 1 : Nat) : Int) = (no:Int) - 1 := by have := l1.out; omega
                    have HNO2 := Lib.hid (fun h => halfB_no2 (O := O) (T := T) (v := v - 1) (by omega) h)
                    have HPRE := Lib.hid (fun (h : okRow ((O.length - 1 : Nat) : Int) (rowL O T (v - 1)) = true) => (fun u (hu : u + 1 < v + 1) => by
                      by_cases h2 : u = v - 1
                      · rw [h2]; exact h
                      · exact HA.out u (by omega) : ∀ u, u + 1 < v + 1 → okRow ((O.length - 1 : Nat) : Int) (rowL O T u) = true))
                    rw [hn'] at HNO2 HPRE ⊢
                    have c1w := Lib.hid (HO.out.cI hlt)
                    have c0w := Lib.hid (HO.out.cI (k := v - 1) (by omega))
                    rw [hB] at c1w
                    rw [hA] at c0w
                    generalize rowL O T (v - 1) = l at *
                    have HRL := Lib.hid hrl
                    have HE := Lib.hid hE; clear hE
                    clear hA hB hrl q1' q2' q3' hn' hvL
                    go_wp2
                    go_loopw [7] (fun i wr => ∃ m j : Nat, m = a + j ∧ j ≤ b - a ∧ i = .int .i64 m ∧ (List.range j).all (okAt ((no:Int) - 1) l) = true ∧ Ext w wr) (fun i _ => b - (intOf i).toNat)
                    case atStart => exact ⟨a, 0, rfl, Nat.zero_le _, rfl, rfl, HE.out⟩
                    case round =>
                      clear HE c1 c0
                      obtain ⟨m, j, hm, hj, rfl, ha, hE⟩ := hrel
                      have c1 := hE.cell c1w.out
                      have c0 := hE.cell c0w.out
                      have HA' := Lib.hid ha; clear ha
                      have hm1 : a + j ≤ m := by omega
                      have hm2 : m ≤ a + j := by omega
                      by_cases hlj : j < b - a
                      · have hjl : j < l.length := by rw [HRL.out]; exact hlj
                        have t1 := hE.cell (HT.out.cI (k := m) (by omega))
                        have hx := hnth.out j hjl
                        rw [← hm] at hx
                        rw [← hx] at t1
                        clear hm
                        have f1 : (0:Int) ≤ m := by omega
                        have f2 : (m:Int) < b := by omega
                        have f3 : (m:Int) < nt := by omega
                        by_cases g1 : nth l j < 0
                        · have b1 : decide (nth l j < 0) = true := by simpa using g1
                          have HF : Hid (halfB O T = false) := HNO2.out (range_all_no _ _ j hjl (by unfold okAt; simp; omega))
                          clear hx
                          have HE := Lib.hid hE; clear hE
                          go_wp2
                          have x0 := fun x : ExtOf wr => x.ext.cell c0
                          have x1 := fun x : ExtOf wr => x.ext.cell t1
                          refine wp_region_ext (by kernel_rfl) (by kernel_rfl) ?_
                          repeat (go_big_quiet_step ((fail)))
                          refine wpQuiet_nil ?_
                          rintro w1 ⟨⟨_, hb1⟩, rfl⟩
                          go_wp2
                          go_ret
                          exact ⟨ret_bool HF.out.symm, Ext.trans HE.out hb1⟩
                        · have b1 : decide (nth l j < 0) = false := by simpa using g1
                          by_cases g2 : (no:Int) - 1 ≤ nth l j
                          · have b2 : decide ((no:Int) - 1 ≤ nth l j) = true := by simpa using g2
                            have HF : Hid (halfB O T = false) := HNO2.out (range_all_no _ _ j hjl (by unfold okAt; simp; omega))
                            clear hx
                            have HE := Lib.hid hE; clear hE
                            go_wp2
                            have x0 := fun x : ExtOf wr => x.ext.cell c0
                            have x1 := fun x : ExtOf wr => x.ext.cell t1
                            refine wp_region_ext (by kernel_rfl) (by kernel_rfl) ?_
                            repeat (go_big_quiet_step ((fail)))
                            refine wpQuiet_nil ?_
                            rintro w1 ⟨⟨_, hb1⟩, rfl⟩
                            go_wp2
                            go_ret
                            exact ⟨ret_bool HF.out.symm, Ext.trans HE.out hb1⟩
                          · have b2 : decide ((no:Int) - 1 ≤ nth l j) = false := by simpa using g2
                            by_cases hj0 : j = 0
                            · have b3 : decide ((a:Int) < (m:Int)) = false := by simp; omega
                              have b3n : decide (a < m) = false := by simp; omega
                              have HK : Hid (okAt ((no:Int) - 1) l j = true) := by unfold Hid okAt; simp; omega
                              clear hx hj0
                              have HE := Lib.hid hE; clear hE
                              go_wp2
                              have x0 := fun x : ExtOf wr => x.ext.cell c0
                              have x1 := fun x : ExtOf wr => x.ext.cell t1
                              refine wp_region_ext (by kernel_rfl) (by kernel_rfl) ?_
                              repeat (go_big_quiet_step ((fail)))
                              refine wpQuiet_nil ?_
                              rintro w1 ⟨⟨_, hb1⟩, rfl⟩
                              go_wp2
                              go_roundw
                              case rel => exact ⟨m + 1, j + 1, by omega, by omega, by go_num, range_all_succ _ _ HA'.out HK.out, Ext.trans HE.out hb1⟩
                              case measure => simp [intOf]; omega
                            · have b3 : decide ((a:Int) < (m:Int)) = true := by simp; omega
                              have b3n : decide (a < m) = true := by simp; omega
                              have t0 := hE.cell (HT.out.cI (k := m - 1) (by omega))
                              have hy := hnth.out (j - 1) (by omega)
                              rw [show a + (j - 1) = m - 1 by omega] at hy
                              rw [← hy] at t0
                              have f4 : (1:Int) ≤ (m:Int) := by omega
                              have f5 : (m:Int) - 1 < nt := by omega
                              have f6 : (0:Int) ≤ (m:Int) - 1 := by omega
                              by_cases g3 : nth l j ≤ nth l (j - 1)
                              · have b4 : decide (nth l j ≤ nth l (j - 1)) = true := by simpa using g3
                                have HF : Hid (halfB O T = false) := HNO2.out (range_all_no _ _ j hjl (by unfold okAt; simp; omega))
                                clear hx hy
                                have HE := Lib.hid hE; clear hE
                                go_wp2
                                have x0 := fun x : ExtOf wr => x.ext.cell c0
                                have x1 := fun x : ExtOf wr => x.ext.cell t1
                                have x2 := fun x : ExtOf wr => x.ext.cell t0
                                refine wp_region_ext (by kernel_rfl) (by kernel_rfl) ?_
                                repeat (go_big_quiet_step ((fail)))
                                refine wpQuiet_nil ?_
                                rintro w1 ⟨⟨_, hb1⟩, rfl⟩
                                go_wp2
                                go_ret
                                exact ⟨ret_bool HF.out.symm, Ext.trans HE.out hb1⟩
                              · have b4 : decide (nth l j ≤ nth l (j - 1)) = false := by simpa using g3
                                have HK : Hid (okAt ((no:Int) - 1) l j = true) := by unfold Hid okAt; simp; omega
                                clear hx hy
                                have HE := Lib.hid hE; clear hE
                                go_wp2
                                have x0 := fun x : ExtOf wr => x.ext.cell c0
                                have x1 := fun x : ExtOf wr => x.ext.cell t1
                                have x2 := fun x : ExtOf wr => x.ext.cell t0
                                refine wp_region_ext (by kernel_rfl) (by kernel_rfl) ?_
                                repeat (go_big_quiet_step ((fail)))
                                refine wpQuiet_nil ?_
                                rintro w1 ⟨⟨_, hb1⟩, rfl⟩
                                go_wp2
                                go_roundw
                                case rel => exact ⟨m + 1, j + 1, by omega, by omega, by go_num, range_all_succ _ _ HA'.out HK.out, Ext.trans HE.out hb1⟩
                                case measure => simp [intOf]; omega
                      · clear hm
                        have HOKR : Hid (okRow ((no:Int) - 1) l = true) := by unfold Hid okRow; rw [HRL.out, show b - a = j by omega]; exact HA'.out
                        have f2 : decide ((m:Int) < b) = false := by simp; omega
                        have f2n : decide (m < b) = false := by simp; omega
                        have HE := Lib.hid hE; clear hE
                        go_wp2
                        go_roundw
                        case rel => exact ⟨v + 1, by omega, by omega, by go_num, HPRE.out HOKR.out, HE.out⟩
                        case measure => simp [intOf]; omega
                  · have HF : Hid (halfB O T = true) := by
                      unfold Hid halfB
                      rw [HOF.out, Bool.true_and, List.all_eq_true]
                      intro u hu
                      rw [List.mem_range] at hu
                      exact HA.out u (by have := l1.out; omega)
                    have HE := Lib.hid hE; clear hE
                    go_wp2
                    go_ret
                    exact ⟨ret_bool HF.out.symm, HE.out⟩
        · have d5 : (nth O (no - 1) != (nt:Int)) = true := by simpa using h5
          have HF : Hid (halfB O T = false) := HNO.out (by rw [← l1.out, ← l2.out]; exact fun h => h5 h.2.2.2.2.1)
          clear h4 h5
          clear hO hT
          go_enter Tryz.func68, Tryz.ntmps68
          go_wp2
          go_ret
          exact ⟨ret_bool HF.out.symm, Below.refl _ _⟩
      · have d4 : (nth O 0 != 0) = true := by simpa using h4
        have HF : Hid (halfB O T = false) := HNO.out (fun h => h4 h.2.2.2.1)
        clear h4
        clear hO hT
        go_enter Tryz.func68, Tryz.ntmps68
        go_wp2
        go_ret
        exact ⟨ret_bool HF.out.symm, Below.refl _ _⟩
end Go.Proofs.YthlmcfbadhidbaaGreat
/- The reference's Check of rows. -/
namespace Go.Proofs.YthlmcfbadhidbaaGreat
open Go Go.RowKit
set_option maxRecDepth 100000 in
set_option maxHeartbeats 4000000 in
theorem Check04_no (po : Option Addr) (no co : Nat) (O : List Int) (pt : Option Addr) (nt ct : Nat) (T : List Int) (pr : Option Addr) (nr cr : Nat) (R : List Int) (pv : Option Addr) (nv cv : Nat) (V : List Int) (w : World) (hO : Rd w 1 po no (encI O)) (hT : Rd w 1 pt nt (encI T)) (hR : Rd w 1 pr nr (encI R)) (hV : Rd w 1 pv nv (encI V)) (hct : nt ≤ ct) (hcv : nv ≤ cv) (h : no ≠ nr ∨ nt ≠ nv ∨ halfB O T = false ∨ halfB R V = false) :
    Calls Tryz.prog 43 #[.agg #[.slice po no co, .slice pt nt ct, .slice pr nr cr, .slice pv nv cv]] w fun e w' => e = .returned (.bool false) ∧ Ext w w' := by
  have _u := And.intro hct hcv
  have S0 := Lib.hid ((Sep.start w).al #[.slice po no co, .slice pt nt ct, .slice pr nr cr, .slice pv nv cv] 24 w.heap.size rfl)
  have HH1 := Lib.hid (fun W1 (h : Ext w W1) => half04 po no co O pt nt ct T W1 (hO.ext h) (hT.ext h))
  have HH2 := Lib.hid (fun W1 (h : Ext w W1) => half04 pr nr cr R pv nv cv V W1 (hR.ext h) (hV.ext h))
  clear hO hT hR hV
  by_cases h1 : no = nr
  · have d1 : ((no:Int) != (nr:Int)) = false := by simp; omega
    cases h3 : halfB O T with
    | false =>
      rw [h3] at HH1
      clear h h1 h3
      go_enter Tryz.func43, Tryz.ntmps43
      go_wp2_with (go_at_call 68; go_must (refine (HH1.out _ S0.out.ext).mono ?_; rintro e w1 ⟨rfl, hb⟩; have S1 := Lib.hid (S0.out.call hb); have az := (S1.out.blk 0 rfl).lt; have a0 := (S1.out.blk 0 rfl).cell 0; have a1 := (S1.out.blk 0 rfl).cell 1; have a2 := (S1.out.blk 0 rfl).cell 2; have a3 := (S1.out.blk 0 rfl).cell 3; clear hb))
      go_ret
      exact ⟨rfl, S1.out.ext⟩
    | true =>
      rw [h3] at HH1
      cases h4 : halfB R V with
      | false =>
        rw [h4] at HH2
        clear h h1 h3 h4
        go_enter Tryz.func43, Tryz.ntmps43
        go_wp2_with (first | (go_at_call 68; have _t := S1; go_must (refine (HH2.out _ S1.out.ext).mono ?_; rintro e w2 ⟨rfl, hb⟩; have S2 := Lib.hid (S1.out.call hb); have bz := (S2.out.blk 0 rfl).lt; have b0 := (S2.out.blk 0 rfl).cell 0; have b1 := (S2.out.blk 0 rfl).cell 1; have b2 := (S2.out.blk 0 rfl).cell 2; have b3 := (S2.out.blk 0 rfl).cell 3; clear hb)) | (go_at_call 68; go_must (refine (HH1.out _ S0.out.ext).mono ?_; rintro e w1 ⟨rfl, hb⟩; have S1 := Lib.hid (S0.out.call hb); have az := (S1.out.blk 0 rfl).lt; have a0 := (S1.out.blk 0 rfl).cell 0; have a1 := (S1.out.blk 0 rfl).cell 1; have a2 := (S1.out.blk 0 rfl).cell 2; have a3 := (S1.out.blk 0 rfl).cell 3; clear hb)))
        go_ret
        exact ⟨rfl, S2.out.ext⟩
      | true =>
        rw [h4] at HH2
        have d2 : ((nt:Int) != (nv:Int)) = true := by
          rcases h with h | h | h | h
          · exact absurd h1 h
          · simp; omega
          · rw [h3] at h; cases h
          · rw [h4] at h; cases h
        clear h h1 h3 h4
        go_enter Tryz.func43, Tryz.ntmps43
        go_wp2_with (first | (go_at_call 68; have _t := S1; go_must (refine (HH2.out _ S1.out.ext).mono ?_; rintro e w2 ⟨rfl, hb⟩; have S2 := Lib.hid (S1.out.call hb); have bz := (S2.out.blk 0 rfl).lt; have b0 := (S2.out.blk 0 rfl).cell 0; have b1 := (S2.out.blk 0 rfl).cell 1; have b2 := (S2.out.blk 0 rfl).cell 2; have b3 := (S2.out.blk 0 rfl).cell 3; clear hb)) | (go_at_call 68; go_must (refine (HH1.out _ S0.out.ext).mono ?_; rintro e w1 ⟨rfl, hb⟩; have S1 := Lib.hid (S0.out.call hb); have az := (S1.out.blk 0 rfl).lt; have a0 := (S1.out.blk 0 rfl).cell 0; have a1 := (S1.out.blk 0 rfl).cell 1; have a2 := (S1.out.blk 0 rfl).cell 2; have a3 := (S1.out.blk 0 rfl).cell 3; clear hb)))
        go_ret
        exact ⟨rfl, S2.out.ext⟩
  · have d1 : ((no:Int) != (nr:Int)) = true := by simp; omega
    clear h h1
    go_enter Tryz.func43, Tryz.ntmps43
    go_wp2
    go_ret
    exact ⟨rfl, S0.out.ext⟩
def ChkQ (m : List Int) (k : Int) (i : Nat) (v : Value) (W : World) : Prop :=
  match i with
  | 8 => ∃ q c, v = .slice q m.length c ∧ Rd W 1 q m.length (encI m)
  | 10 => v = .bool (inB m k)
  | _ => True
theorem ChkQ_mono {m : List Int} {k : Int} : ∀ i v W W', Ext W W' → ChkQ m k i v W → ChkQ m k i v W' := by
  intro i v W W' he h
  unfold ChkQ at *
  split at h
  · obtain ⟨q, c, h1, h2⟩ := h; exact ⟨q, c, h1, h2.ext he⟩
  · exact h
  · trivial
theorem rowX_take_all {O T R V : List Int} {k j : Nat} (hj : j < (rowL O T k).length) : ((rowX O T k).take (j + 1)).all (backB R V) = (((rowX O T k).take j).all (backB R V) && inB (rowL R V (nth (rowL O T k) j).toNat) k) := by
  rw [rowX_take hj, List.all_append]; simp [backB]
set_option maxRecDepth 100000 in
set_option maxHeartbeats 8000000 in
theorem Check04_yes (po : Option Addr) (no co : Nat) (O : List Int) (pt : Option Addr) (nt ct : Nat) (T : List Int) (pr : Option Addr) (nr cr : Nat) (R : List Int) (pv : Option Addr) (nv cv : Nat) (V : List Int) (w : World) (hO : Rd w 1 po no (encI O)) (hT : Rd w 1 pt nt (encI T)) (hR : Rd w 1 pr nr (encI R)) (hV : Rd w 1 pv nv (encI V)) (hct : nt ≤ ct) (hcv : nv ≤ cv) (e1 : no = nr) (e2 : nt = nv) (h1 : halfB O T = true) (h2 : halfB R V = true) :
    Calls Tryz.prog 43 #[.agg #[.slice po no co, .slice pt nt ct, .slice pr nr cr, .slice pv nv cv]] w fun e w' => e = .returned (.bool ((pairs O T).all (backB R V))) ∧ Ext w w' := by
  have l1 := hO.nI
  have l2 := hT.nI
  have l3 := hR.nI
  have l4 := hV.nI
  have n1 := hO.small
  have S0 := Lib.hid ((Sep.start w).al #[.slice po no co, .slice pt nt ct, .slice pr nr cr, .slice pv nv cv] 24 w.heap.size rfl)
  have HH1 := Lib.hid (fun W1 (h : Ext w W1) => half04 po no co O pt nt ct T W1 (hO.ext h) (hT.ext h))
  have HH2 := Lib.hid (fun W1 (h : Ext w W1) => half04 pr nr cr R pv nv cv V W1 (hR.ext h) (hV.ext h))
  rw [h1] at HH1
  rw [h2] at HH2
  have d1 : ((no:Int) != (nr:Int)) = false := by simp; omega
  have d2 : ((nt:Int) != (nv:Int)) = false := by simp; omega
  have r := offB_parts (halfB_off h1)
  have r' := offB_parts (halfB_off h2)
  have HR1 := Lib.hid (fun W1 (h : Ext w W1) k (hk : k + 1 < O.length) => row04 po no co O pt nt ct T k W1 (hO.ext h) (hT.ext h) hct (offOk_of (halfB_off h1)) hk (by omega))
  have HR2 := Lib.hid (fun W1 (h : Ext w W1) k (hk : k + 1 < R.length) => row04 pr nr cr R pv nv cv V k W1 (hR.ext h) (hV.ext h) hcv (offOk_of (halfB_off h2)) hk (by omega))
  have HPB := Lib.hid (fun x (hx : x ∈ pairs O T) => pair_bd h1 hx)
  have L1 := Lib.hid l1
  have L3 := Lib.hid l3
  have E1 := Lib.hid e1
  have rl2000 : ∀ k, (rowL O T k).length ≤ 2000 := fun k => by unfold rowL; rw [List.length_take, List.length_drop]; omega
  have ru2000 : ∀ k, (rowL R V k).length ≤ 2000 := fun k => by unfold rowL; rw [List.length_take, List.length_drop]; omega
  have RL := Lib.hid rl2000
  have RU := Lib.hid ru2000
  have no200 : no ≤ 201 := by omega
  clear hO hT hR hV h1 h2 l1 l2 l3 l4 e1 e2 r r' rl2000 ru2000
  go_enter Tryz.func43, Tryz.ntmps43
  go_wp2_with (first | (go_at_call 68; have _t := S1; go_must (refine (HH2.out _ S1.out.ext).mono ?_; rintro e w2 ⟨rfl, hb⟩; have S2 := Lib.hid (S1.out.call hb); have bz := (S2.out.blk 0 rfl).lt; have b0 := (S2.out.blk 0 rfl).cell 0; have b1 := (S2.out.blk 0 rfl).cell 1; have b2 := (S2.out.blk 0 rfl).cell 2; have b3 := (S2.out.blk 0 rfl).cell 3; clear hb)) | (go_at_call 68; go_must (refine (HH1.out _ S0.out.ext).mono ?_; rintro e w1 ⟨rfl, hb⟩; have S1 := Lib.hid (S0.out.call hb); have az := (S1.out.blk 0 rfl).lt; have a0 := (S1.out.blk 0 rfl).cell 0; have a1 := (S1.out.blk 0 rfl).cell 1; have a2 := (S1.out.blk 0 rfl).cell 2; have a3 := (S1.out.blk 0 rfl).cell 3; clear hb)))
  go_loopw [3, 4, 5] (fun v _ _ wr => ∃ k : Nat, k ≤ no - 1 ∧ v = .int .i64 k ∧ (pairsK O T k).all (backB R V) = true ∧ Sep w wr [.blk w.heap.size 24 #[.slice po no co, .slice pt nt ct, .slice pr nr cr, .slice pv nv cv]]) (fun v _ _ _ => no - 1 - (intOf v).toNat)
  case atStart => exact ⟨0, Nat.zero_le _, rfl, rfl, S2.out⟩
  case round =>
    clear S0 S1 S2
    obtain ⟨k, hk, rfl, ha, S⟩ := hrel
    have HA := Lib.hid ha; clear ha
    have az := (S.blk 0 rfl).lt; have a0 := (S.blk 0 rfl).cell 0; have a1 := (S.blk 0 rfl).cell 1; have a2 := (S.blk 0 rfl).cell 2; have a3 := (S.blk 0 rfl).cell 3
    by_cases hlt : k < no - 1
    · have hkO : k + 1 < O.length := by have := L1.out; omega
      have t1 : (k:Int) + 1 < no := by omega
      have t0 : (0:Int) ≤ k := by omega
      have HRk := Lib.hid (fun W1 (h : Ext w W1) => HR1.out W1 h k hkO)
      have rlk := RL.out k
      have hpair := Lib.hid (fun j (hj : j < (rowL O T k).length) => pairs_at (O := O) (T := T) (k := k) (by omega) hj)
      have hstep := Lib.hid (fun j (hj : j < (rowL O T k).length) => rowX_take_all (R := R) (V := V) hj)
      have hpre := Lib.hid (fun j => pairs_prefix (O := O) (T := T) (k := k) (j := j) (by omega))
      have hend : Hid ((rowX O T k).take (rowL O T k).length = rowX O T k) := by unfold Hid rowX; rw [List.take_of_length_le (by simp)]
      have hps := Lib.hid (pairsK_step O T k)
      generalize rowL O T k = l at *
      generalize rowX O T k = xs at *
      have SH := Lib.hid S; clear S
      go_wp2_with (go_at_call 69; go_must (refine (HRk.out _ SH.out.ext).mono ?_; rintro e w3 ⟨q, c, rfl, Z⟩; have P1 := Lib.hid (SH.out.comp Z); clear Z))
      go_loopw [5] (fun i wr => ∃ j : Nat, j ≤ l.length ∧ i = .int .i64 j ∧ (xs.take j).all (backB R V) = true ∧ Sep w wr [.own 3 1 q l.length c (encI l), .blk w.heap.size 24 #[.slice po no co, .slice pt nt ct, .slice pr nr cr, .slice pv nv cv]]) (fun i _ => l.length - (intOf i).toNat)
      case atStart => exact ⟨0, Nat.zero_le _, rfl, by simp, P1.out⟩
      case round =>
        clear SH P1 a0 a1 a2 a3 az
        obtain ⟨j, hj, rfl, hb, S⟩ := hrel
        have HB := Lib.hid hb; clear hb
        have az := (S.blk 1 rfl).lt; have a0 := (S.blk 1 rfl).cell 0; have a1 := (S.blk 1 rfl).cell 1; have a2 := (S.blk 1 rfl).cell 2; have a3 := (S.blk 1 rfl).cell 3
        have pq := (S.rd 0 rfl (by omega)).ptr
        by_cases hlj : j < l.length
        · have g1 := (S.rd 0 rfl (by omega)).cI hlj
          have hpb := HPB.out _ (hpair.out j hlj)
          simp only at hpb
          obtain ⟨u, hu⟩ : ∃ u : Nat, nth l j = (u : Int) := ⟨(nth l j).toNat, by omega⟩
          have huR : u + 1 < R.length := by have := L1.out; have := L3.out; have := E1.out; omega
          have HRu := Lib.hid (fun W1 (h : Ext w W1) => HR2.out W1 h u huR)
          have hst := hstep.out j hlj
          rw [HB.out, Bool.true_and, hu, Int.toNat_natCast] at hst
          have HST := Lib.hid hst
          have ruk := RU.out u
          rw [hu] at g1
          generalize rowL R V u = m at *
          have t2 : (0:Int) ≤ j := by omega
          have t3 : (j:Int) < l.length := by omega
          clear hst hpb hu
          have SH := Lib.hid S; clear S
          cases hin : inB m (k:Int) with
          | true =>
            rw [hin] at HST
            go_wp2
            have x2 := fun x : ExtOf wr => x.ext.cell a2
            have x3 := fun x : ExtOf wr => x.ext.cell a3
            have x1 := fun x : ExtOf wr => x.ext.cell g1
            refine wp_region_mix [true, true, true, true, true, true, true, true, false, true, false] (ChkQ m k) (by kernel_rfl) (by kernel_rfl) (by kernel_rfl) ChkQ_mono ?_
            simp only [nfM]
            repeat (go_big_quiet_step ((fail)))
            refine wpQuiet_nil ⟨⟨fun vs W1 hE hd => ?_, fun vs W1 hE hd => ?_, trivial⟩, fun vs W1 hE hkn => ?_⟩
            · simp [putM, go_sem]
              exact (HRu.out _ (Ext.trans SH.out.ext hE)).mono fun e w' ⟨q, c, h1, S⟩ => ⟨_, h1, ⟨q, c, rfl, S.rd 0 rfl (by omega)⟩, S.ext⟩
            · obtain ⟨q, c, e1, e2⟩ := hd 8 (by decide) rfl
              simp [putM, go_sem, e1]
              exact (In04x q _ c m k W1 e2).mono fun e w' ⟨h1, h2⟩ => ⟨_, h1, rfl, h2⟩
            obtain ⟨⟨q', c', k1, _⟩, k2, _⟩ := hkn
            have k2 : vs 10 = .bool (inB m k) := k2
            rw [hin] at k2
            have SY := Lib.hid (SH.out.call hE)
            simp only [putM, k1, k2, List.length_cons, List.length_nil, Nat.zero_add, Nat.reduceAdd, List.drop_succ_cons, List.drop_zero]
            clear x1 x2 x3 k1 k2 hE
            go_wp2
            go_roundw
            case rel => exact ⟨j + 1, by omega, by go_num, HST.out, SY.out⟩
            case measure => simp [intOf]; omega
          | false =>
            rw [hin] at HST
            have HF : Hid ((pairs O T).all (backB R V) = false) := by
              obtain ⟨t, ht⟩ := hpre.out (j + 1)
              unfold Hid
              rw [← ht, List.all_append, List.all_append, HST.out]; simp
            go_wp2
            have x2 := fun x : ExtOf wr => x.ext.cell a2
            have x3 := fun x : ExtOf wr => x.ext.cell a3
            have x1 := fun x : ExtOf wr => x.ext.cell g1
            refine wp_region_mix [true, true, true, true, true, true, true, true, false, true, false] (ChkQ m k) (by kernel_rfl) (by kernel_rfl) (by kernel_rfl) ChkQ_mono ?_
            simp only [nfM]
            repeat (go_big_quiet_step ((fail)))
            refine wpQuiet_nil ⟨⟨fun vs W1 hE hd => ?_, fun vs W1 hE hd => ?_, trivial⟩, fun vs W1 hE hkn => ?_⟩
            · simp [putM, go_sem]
              exact (HRu.out _ (Ext.trans SH.out.ext hE)).mono fun e w' ⟨q, c, h1, S⟩ => ⟨_, h1, ⟨q, c, rfl, S.rd 0 rfl (by omega)⟩, S.ext⟩
            · obtain ⟨q, c, e1, e2⟩ := hd 8 (by decide) rfl
              simp [putM, go_sem, e1]
              exact (In04x q _ c m k W1 e2).mono fun e w' ⟨h1, h2⟩ => ⟨_, h1, rfl, h2⟩
            obtain ⟨⟨q', c', k1, _⟩, k2, _⟩ := hkn
            have k2 : vs 10 = .bool (inB m k) := k2
            rw [hin] at k2
            have SY := Lib.hid (SH.out.call hE)
            simp only [putM, k1, k2, List.length_cons, List.length_nil, Nat.zero_add, Nat.reduceAdd, List.drop_succ_cons, List.drop_zero]
            clear x1 x2 x3 k1 k2 hE
            go_wp2
            go_ret
            exact ⟨ret_bool HF.out.symm, SY.out.ext⟩
        · obtain rfl : j = l.length := by omega
          have hb := HB.out
          rw [hend.out] at hb
          have HK : Hid ((pairsK O T (k + 1)).all (backB R V) = true) := by unfold Hid; rw [hps.out, List.all_append, HA.out, hb]; rfl
          clear hb
          have SH := Lib.hid S; clear S
          go_wp2
          go_roundw
          case rel => exact ⟨k + 1, by omega, by go_num, HK.out, SH.out.pick [1] (by decide) rfl⟩
          case measure => simp [intOf]; omega
    · have HF : Hid ((pairs O T).all (backB R V) = true) := by
        unfold Hid pairs
        rw [show O.length - 1 = k by have := L1.out; omega]; exact HA.out
      have t1 : decide ((k:Int) + 1 < no) = false := by simp; omega
      have SH := Lib.hid S; clear S
      go_wp2
      go_ret
      exact ⟨ret_bool HF.out.symm, SH.out.ext⟩
theorem Check04 (po : Option Addr) (no co : Nat) (O : List Int) (pt : Option Addr) (nt ct : Nat) (T : List Int) (pr : Option Addr) (nr cr : Nat) (R : List Int) (pv : Option Addr) (nv cv : Nat) (V : List Int) (w : World) (hO : Rd w 1 po no (encI O)) (hT : Rd w 1 pt nt (encI T)) (hR : Rd w 1 pr nr (encI R)) (hV : Rd w 1 pv nv (encI V)) (hct : nt ≤ ct) (hcv : nv ≤ cv) : Calls Tryz.prog 43 #[.agg #[.slice po no co, .slice pt nt ct, .slice pr nr cr, .slice pv nv cv]] w fun e w' => e = .returned (.bool (checkR O T R V)) ∧ Ext w w' := by
  have l1 := hO.nI
  have l2 := hT.nI
  have l3 := hR.nI
  have l4 := hV.nI
  by_cases h : no ≠ nr ∨ nt ≠ nv ∨ halfB O T = false ∨ halfB R V = false
  · rw [checkR_no (by rw [← l1, ← l2, ← l3, ← l4]; exact h)]
    exact Check04_no po no co O pt nt ct T pr nr cr R pv nv cv V w hO hT hR hV hct hcv h
  · have h1 : no = nr := by
      by_cases h1 : no = nr
      · exact h1
      · exact absurd (.inl h1) h
    have h2 : nt = nv := by
      by_cases h2 : nt = nv
      · exact h2
      · exact absurd (.inr (.inl h2)) h
    have h3 : halfB O T = true := by
      cases h3 : halfB O T with
      | true => rfl
      | false => exact absurd (.inr (.inr (.inl h3))) h
    have h4 : halfB R V = true := by
      cases h4 : halfB R V with
      | true => rfl
      | false => exact absurd (.inr (.inr (.inr h4))) h
    have : checkR O T R V = (pairs O T).all (backB R V) := by
      unfold checkR
      rw [h3, h4, ← l1, ← l2, ← l3, ← l4, h1, h2]
      simp only [decide_true, Bool.true_and]
      rfl
    rw [this]
    exact Check04_yes po no co O pt nt ct T pr nr cr R pv nv cv V w hO hT hR hV hct hcv h1 h2 h3 h4
end Go.Proofs.YthlmcfbadhidbaaGreat
/- The reference's Out, In, Has, Own of rows. -/
namespace Go.Proofs.YthlmcfbadhidbaaGreat
open Go Go.RowKit
end Go.Proofs.YthlmcfbadhidbaaGreat
/- Equal rows, equal edges, rows too big, a row that rises and has a number. -/
namespace Go.Proofs.YthlmcfbadhidbaaGreat
open Go Go.RowKit Go.Shelf Go.Lib
attribute [local go_sem ↓] eqEdge neqEdge guardEdge
theorem IntsY (p q : Option Addr) (n m c d : Nat) (A : List Int) (w : World) (h1 : Rd w 1 p n (encI A)) (h2 : Rd w 1 q m (encI A)) : Calls Tryz.prog 21 #[.slice p n c, .slice q m d] w fun e w' => e = .returned (.bool true) ∧ Ext w w' :=
  (Ints01 p q n m c d A A w h1 h2).mono fun e w' ⟨h3, h4⟩ => ⟨by rw [h3]; simp, h4⟩
set_option maxRecDepth 100000 in
set_option maxHeartbeats 2000000 in
theorem Same04T (po : Option Addr) (no co : Nat) (O : List Int) (pt : Option Addr) (nt ct : Nat) (T : List Int) (pr : Option Addr) (nr cr : Nat) (R : List Int) (pv : Option Addr) (nv cv : Nat) (V : List Int) (po' : Option Addr) (no' co' : Nat) (pt' : Option Addr) (nt' ct' : Nat) (pr' : Option Addr) (nr' cr' : Nat) (pv' : Option Addr) (nv' cv' : Nat) (w : World) (hO : Rd w 1 po no (encI O)) (hT : Rd w 1 pt nt (encI T)) (hR : Rd w 1 pr nr (encI R)) (hV : Rd w 1 pv nv (encI V))
    (hO' : Rd w 1 po' no' (encI O)) (hT' : Rd w 1 pt' nt' (encI T)) (hR' : Rd w 1 pr' nr' (encI R)) (hV' : Rd w 1 pv' nv' (encI V)) :
    Calls Tryz.prog 25 #[.agg #[.slice po no co, .slice pt nt ct, .slice pr nr cr, .slice pv nv cv], .agg #[.slice po' no' co', .slice pt' nt' ct', .slice pr' nr' cr', .slice pv' nv' cv']] w fun e w' => e = .returned (.bool true) ∧ Ext w w' := by
  have H1 := Lib.hid (fun W1 (h : Ext w W1) => IntsY po po' no no' co co' O W1 (hO.ext h) (hO'.ext h))
  have H2 := Lib.hid (fun W1 (h : Ext w W1) => IntsY pt pt' nt nt' ct ct' T W1 (hT.ext h) (hT'.ext h))
  have H3 := Lib.hid (fun W1 (h : Ext w W1) => IntsY pr pr' nr nr' cr cr' R W1 (hR.ext h) (hR'.ext h))
  have H4 := Lib.hid (fun W1 (h : Ext w W1) => IntsY pv pv' nv nv' cv cv' V W1 (hV.ext h) (hV'.ext h))
  have S0 := Lib.hid (((Sep.start w).al #[.slice po no co, .slice pt nt ct, .slice pr nr cr, .slice pv nv cv] 24 w.heap.size rfl).al #[.slice po' no' co', .slice pt' nt' ct', .slice pr' nr' cr', .slice pv' nv' cv'] 24 (w.heap.size + 1) (by simp))
  clear hO hT hR hV hO' hT' hR' hV'
  go_enter Tryz.func25, Tryz.ntmps25
  go_wp2_with (first | (go_at_call 21; have _t := S3; go_must (refine (H4.out _ S3.out.ext).mono ?_; rintro e w4 ⟨rfl, hb⟩; have S4 := Lib.hid (S3.out.call hb); have w4a0 := (S4.out.blk 1 rfl).cell 0; have w4a1 := (S4.out.blk 1 rfl).cell 1; have w4a2 := (S4.out.blk 1 rfl).cell 2; have w4a3 := (S4.out.blk 1 rfl).cell 3; have w4az := (S4.out.blk 1 rfl).lt; have w4b0 := (S4.out.blk 0 rfl).cell 0; have w4b1 := (S4.out.blk 0 rfl).cell 1; have w4b2 := (S4.out.blk 0 rfl).cell 2; have w4b3 := (S4.out.blk 0 rfl).cell 3; have w4bz := (S4.out.blk 0 rfl).lt; clear hb)) | (go_at_call 21; have _t := S2; go_must (refine (H3.out _ S2.out.ext).mono ?_; rintro e w3 ⟨rfl, hb⟩; have S3 := Lib.hid (S2.out.call hb); have w3a0 := (S3.out.blk 1 rfl).cell 0; have w3a1 := (S3.out.blk 1 rfl).cell 1; have w3a2 := (S3.out.blk 1 rfl).cell 2; have w3a3 := (S3.out.blk 1 rfl).cell 3; have w3az := (S3.out.blk 1 rfl).lt; have w3b0 := (S3.out.blk 0 rfl).cell 0; have w3b1 := (S3.out.blk 0 rfl).cell 1; have w3b2 := (S3.out.blk 0 rfl).cell 2; have w3b3 := (S3.out.blk 0 rfl).cell 3; have w3bz := (S3.out.blk 0 rfl).lt; clear hb)) | (go_at_call 21; have _t := S1; go_must (refine (H2.out _ S1.out.ext).mono ?_; rintro e w2 ⟨rfl, hb⟩; have S2 := Lib.hid (S1.out.call hb); have w2a0 := (S2.out.blk 1 rfl).cell 0; have w2a1 := (S2.out.blk 1 rfl).cell 1; have w2a2 := (S2.out.blk 1 rfl).cell 2; have w2a3 := (S2.out.blk 1 rfl).cell 3; have w2az := (S2.out.blk 1 rfl).lt; have w2b0 := (S2.out.blk 0 rfl).cell 0; have w2b1 := (S2.out.blk 0 rfl).cell 1; have w2b2 := (S2.out.blk 0 rfl).cell 2; have w2b3 := (S2.out.blk 0 rfl).cell 3; have w2bz := (S2.out.blk 0 rfl).lt; clear hb)) | (go_at_call 21; have _t := S0; go_must (refine (H1.out _ S0.out.ext).mono ?_; rintro e w1 ⟨rfl, hb⟩; have S1 := Lib.hid (S0.out.call hb); have w1a0 := (S1.out.blk 1 rfl).cell 0; have w1a1 := (S1.out.blk 1 rfl).cell 1; have w1a2 := (S1.out.blk 1 rfl).cell 2; have w1a3 := (S1.out.blk 1 rfl).cell 3; have w1az := (S1.out.blk 1 rfl).lt; have w1b0 := (S1.out.blk 0 rfl).cell 0; have w1b1 := (S1.out.blk 0 rfl).cell 1; have w1b2 := (S1.out.blk 0 rfl).cell 2; have w1b3 := (S1.out.blk 0 rfl).cell 3; have w1bz := (S1.out.blk 0 rfl).lt; clear hb)))
  go_ret
  exact ⟨rfl, S4.out.ext⟩
/-- rows more than are looked at -/
def bigR (O T R V : List Int) : Bool := decide (30 < O.length) && decide (O.length ≤ 201) || decide (250 < O.length) || decide (250 < R.length) || decide (150 < T.length) && decide (T.length ≤ 2000) || decide (2100 < T.length) || decide (2100 < V.length)
set_option maxHeartbeats 2000000 in
theorem Big04 (po : Option Addr) (no co : Nat) (O : List Int) (pt : Option Addr) (nt ct : Nat) (T : List Int) (pr : Option Addr) (nr cr : Nat) (R : List Int) (pv : Option Addr) (nv cv : Nat) (V : List Int) (w : World) (hO : Rd w 1 po no (encI O)) (hT : Rd w 1 pt nt (encI T)) (hR : Rd w 1 pr nr (encI R)) (hV : Rd w 1 pv nv (encI V)) : Calls Tryz.prog 10 #[.agg #[.slice po no co, .slice pt nt ct, .slice pr nr cr, .slice pv nv cv]] w fun e w' => e = .returned (.bool (bigR O T R V)) ∧ Ext w w' := by
  have hd : bigR O T R V = (decide (30 < no) && decide (no ≤ 201) || decide (250 < no) || decide (250 < nr) || decide (150 < nt) && decide (nt ≤ 2000) || decide (2100 < nt) || decide (2100 < nv)) := by
    unfold bigR; rw [hO.nI, hT.nI, hR.nI, hV.nI]
  rw [hd]
  clear hd hO hT hR hV
  go_enter Tryz.func10, Tryz.ntmps10
  go_wp2
  all_goals (go_ret; refine ⟨ret_bool ?_, Ext.alloc (Below.refl _ _) _⟩; rw [Bool.eq_iff_iff]; simp only [Bool.or_eq_true, Bool.and_eq_true, decide_eq_true_eq, true_iff]; omega)
end Go.Proofs.YthlmcfbadhidbaaGreat
/- Rows of a graph: laid in one sweep, or place by place. No program in sight. -/
namespace Go.Proofs.YthlmcfbadhidbaaGreat
open Go Go.RowKit
/-- offsets: how many edges come ahead of a place -/
def offL (n : Nat) (E : List (Int × Int)) : List Int := (List.range (n + 1)).map fun (j : Nat) => ((E.countP fun x => decide (x.1 < (j:Int))) : Int)
def toL (E : List (Int × Int)) : List Int := E.map (·.2)
theorem offL_len (n : Nat) (E : List (Int × Int)) : (offL n E).length = n + 1 := by simp [offL]
theorem offL_nth {n j : Nat} (E : List (Int × Int)) (h : j < n + 1) : nth (offL n E) j = ((E.countP fun x => decide (x.1 < (j:Int))) : Int) := by
  rw [nth_eq (by rw [offL_len]; exact h)]
  simp [offL]
/-- counts, when k edges are over -/
def cntL (n : Nat) (E : List (Int × Int)) : List Int := (List.range (n + 1)).map fun (j : Nat) => ((E.countP fun x => decide (x.1 + 1 = (j:Int))) : Int)
theorem cntL_len (n : Nat) (E : List (Int × Int)) : (cntL n E).length = n + 1 := by simp [cntL]
theorem cntL_nth {n j : Nat} (E : List (Int × Int)) (h : j < n + 1) : nth (cntL n E) j = ((E.countP fun x => decide (x.1 + 1 = (j:Int))) : Int) := by
  rw [nth_eq (by rw [cntL_len]; exact h)]
  simp [cntL]
theorem cntL_step {n : Nat} (E : List (Int × Int)) (x : Int × Int) {k : Nat} (hk : x.1 = (k:Int)) (hn : k < n) : cntL n (E ++ [x]) = (cntL n E).set (k + 1) (nth (cntL n E) (k + 1) + 1) := by
  apply List.ext_getElem
  · simp [cntL]
  · intro i h1 h2
    rw [List.getElem_set]
    by_cases e : k + 1 = i
    · subst e
      rw [if_pos rfl, cntL_nth E (by omega)]
      simp [cntL, List.countP_append, hk]
    · rw [if_neg e]
      have : ¬ ((k:Int) + 1 = (i:Int)) := by omega
      simp [cntL, List.countP_append, hk, this]
/-- sums, when v places are over -/
def sumL (n : Nat) (E : List (Int × Int)) (v : Nat) : List Int := (List.range (n + 1)).map fun (j : Nat) => if j ≤ v then ((E.countP fun x => decide (x.1 < (j:Int))) : Int) else ((E.countP fun x => decide (x.1 + 1 = (j:Int))) : Int)
theorem sumL_len (n : Nat) (E : List (Int × Int)) (v : Nat) : (sumL n E v).length = n + 1 := by simp [sumL]
theorem sumL_nth {n j v : Nat} (E : List (Int × Int)) (h : j < n + 1) : nth (sumL n E v) j = if j ≤ v then ((E.countP fun x => decide (x.1 < (j:Int))) : Int) else ((E.countP fun x => decide (x.1 + 1 = (j:Int))) : Int) := by
  rw [nth_eq (by rw [sumL_len]; exact h)]
  simp [sumL]
theorem sumL_zero {n : Nat} {E : List (Int × Int)} (h : ∀ x ∈ E, 0 ≤ x.1) : sumL n E 0 = cntL n E := by
  apply List.ext_getElem
  · simp [sumL, cntL]
  · intro i h1 h2
    simp only [sumL, cntL, List.getElem_map, List.getElem_range]
    by_cases e : i ≤ 0
    · obtain rfl : i = 0 := by omega
      rw [if_pos e]
      rw [List.countP_eq_zero.2 fun x hx => by have := h x hx; simp; omega, List.countP_eq_zero.2 fun x hx => by have := h x hx; simp; omega]
    · rw [if_neg e]
theorem sumL_end (n : Nat) (E : List (Int × Int)) : sumL n E n = offL n E := by
  apply List.ext_getElem
  · simp [sumL, offL]
  · intro i h1 h2
    simp only [sumL, offL, List.getElem_map, List.getElem_range]
    rw [if_pos (by simp [sumL] at h1; omega)]
theorem count_step (E : List (Int × Int)) (v : Nat) : (E.countP fun x => decide (x.1 < ((v + 1 : Nat):Int))) = (E.countP fun x => decide (x.1 + 1 = ((v + 1 : Nat):Int))) + E.countP fun x => decide (x.1 < (v:Int)) := by
  induction E with
  | nil => rfl
  | cons x E ih =>
    simp only [List.countP_cons]
    rw [ih]
    by_cases h1 : x.1 < (v:Int)
    · have h2 : x.1 < ((v + 1 : Nat) : Int) := by omega
      have h3 : ¬ (x.1 + 1 = ((v + 1 : Nat):Int)) := by omega
      simp only [h1, h2, h3, decide_true, decide_false, if_true, Bool.false_eq_true, if_false]; omega
    · by_cases h2 : x.1 + 1 = ((v + 1 : Nat) : Int)
      · have h3 : x.1 < ((v + 1 : Nat) : Int) := by omega
        simp only [h1, h2, h3, decide_true, decide_false, if_true, Bool.false_eq_true, if_false]; omega
      · have h3 : ¬ x.1 < ((v + 1 : Nat) : Int) := by omega
        simp only [h1, h2, h3, decide_false, Bool.false_eq_true, if_false]; omega
theorem sumL_step {n : Nat} (E : List (Int × Int)) {v : Nat} (hv : v < n) : sumL n E (v + 1) = (sumL n E v).set (v + 1) (nth (sumL n E v) (v + 1) + nth (sumL n E v) v) := by
  apply List.ext_getElem
  · simp [sumL]
  · intro i h1 h2
    rw [List.getElem_set]
    by_cases e : v + 1 = i
    · subst e
      rw [if_pos rfl, sumL_nth E (by omega), sumL_nth E (by omega), if_neg (by omega), if_pos (Nat.le_refl _)]
      simp only [sumL, List.getElem_map, List.getElem_range]
      rw [if_pos (Nat.le_refl _), count_step]
      omega
    · rw [if_neg e]
      simp only [sumL, List.getElem_map, List.getElem_range]
      by_cases e2 : i ≤ v
      · rw [if_pos e2, if_pos (by omega)]
      · rw [if_neg e2, if_neg (by omega)]
/-! ### place by place -/
def placeE (E : List (Int × Int)) (v : Nat) : List (Int × Int) := E.filter fun x => decide (x.1 = (v:Int))
def placesK (E : List (Int × Int)) (k : Nat) : List (Int × Int) := (List.range k).flatMap (placeE E)
theorem placesK_step (E : List (Int × Int)) (k : Nat) : placesK E (k + 1) = placesK E k ++ placeE E k := by
  unfold placesK; rw [List.range_succ, List.flatMap_append]; simp
theorem placesK_mem {E : List (Int × Int)} {k : Nat} {x : Int × Int} : x ∈ placesK E k ↔ x ∈ E ∧ ∃ v : Nat, v < k ∧ x.1 = (v:Int) := by
  unfold placesK placeE
  simp only [List.mem_flatMap, List.mem_range, List.mem_filter, decide_eq_true_eq]
  constructor
  · rintro ⟨v, h1, h2, h3⟩; exact ⟨h2, v, h1, h3⟩
  · rintro ⟨h1, v, h2, h3⟩; exact ⟨v, h2, h1, h3⟩
theorem placesK_len (E : List (Int × Int)) (h : ∀ x ∈ E, 0 ≤ x.1) : ∀ k : Nat, (placesK E k).length = E.countP fun x => decide (x.1 < (k:Int))
  | 0 => by
    rw [List.countP_eq_zero.2 fun x hx => by have := h x hx; simp; omega]; rfl
  | k + 1 => by
    rw [placesK_step, List.length_append, placesK_len E h k, count_step]
    have : (placeE E k).length = E.countP fun x => decide (x.1 + 1 = ((k + 1 : Nat):Int)) := by
      unfold placeE
      rw [List.countP_eq_length_filter]
      congr 1
      apply List.filter_congr
      intro x _
      rw [decide_eq_decide]; omega
    omega
theorem lessE_iff {a b : Int × Int} : lessE a b = true ↔ a.1 < b.1 ∨ a.1 = b.1 ∧ a.2 < b.2 := by unfold lessE; simp
theorem placesK_rises {E : List (Int × Int)} (h : Rises lessE E) : ∀ k, Rises lessE (placesK E k)
  | 0 => List.Pairwise.nil
  | k + 1 => by
    rw [placesK_step]
    refine List.pairwise_append.2 ⟨placesK_rises h k, h.sublist List.filter_sublist, fun a ha b hb => ?_⟩
    obtain ⟨_, v, h1, h2⟩ := placesK_mem.1 ha
    unfold placeE at hb
    rw [List.mem_filter, decide_eq_true_eq] at hb
    rw [lessE_iff]; omega
theorem places_all {E : List (Int × Int)} (h : Rises lessE E) {k : Nat} (hb : ∀ x ∈ E, 0 ≤ x.1 ∧ x.1 < k) : placesK E k = E :=
  rises_uniq stoE _ _ (placesK_rises h k) h fun x => by
    rw [placesK_mem]
    exact ⟨fun h => h.1, fun hx => ⟨hx, x.1.toNat, by have := hb x hx; omega, by have := hb x hx; omega⟩⟩
/-- the same, turned -/
theorem placeE_turn {E : List (Int × Int)} (h : Rises lessE E) (v : Nat) : placeE (putAll lessE (E.map swapE)) v = (E.filter fun x => decide (x.2 = (v:Int))).map swapE := by
  refine rises_uniq stoE _ _ ((putAll_rises stoE _).sublist List.filter_sublist) ?_ fun x => ?_
  · rw [Rises, List.pairwise_map]
    refine (h.sublist List.filter_sublist).imp_of_mem fun {a b} ha hb hab => ?_
    rw [List.mem_filter, decide_eq_true_eq] at ha hb
    rw [lessE_iff] at hab ⊢
    unfold swapE
    simp only
    omega
  · unfold placeE
    rw [List.mem_filter, putAll_mem stoE, List.mem_map, List.mem_map]
    simp only [List.mem_filter, decide_eq_true_eq]
    constructor
    · rintro ⟨⟨y, h1, rfl⟩, h2⟩; exact ⟨y, ⟨h1, h2⟩, rfl⟩
    · rintro ⟨y, ⟨h1, h2⟩, rfl⟩; exact ⟨⟨y, h1, rfl⟩, h2⟩
end Go.Proofs.YthlmcfbadhidbaaGreat
/- The program's rows of a graph: laid. -/
namespace Go.Proofs.YthlmcfbadhidbaaGreat
open Go Go.RowKit Go.Shelf Go.Lib
theorem encI_set (l : List Int) (k : Nat) (x : Int) : (encI l).set k (.int .i64 x) = encI (l.set k x) := by simp [encI, List.map_set]
theorem made_encI (n : Nat) : (madeCells (Value.int .i64 0).cells (n * 1)).toList = encI (List.replicate n 0) := by
  apply List.ext_getElem
  · simp [madeCells, encI]
  · intro i h1 h2
    simp [madeCells, encI, Value.cells, Nat.mod_one]
theorem cntL_nil (n : Nat) : cntL n [] = List.replicate (n + 1) 0 := by
  apply List.ext_getElem
  · simp [cntL]
  · intro i h1 h2
    simp [cntL]
theorem Rd.oneIat (w : World) (t : TypeId) (a : Int) (b : Nat) (h : w.heap.size = b) : Rd (w.alloc (.cells #[.int .i64 a] t)) 1 (some ⟨b, 0, none⟩) 1 (encI [a]) := by subst h; exact Rd.oneI w t a
/-- 'make' of a row, as a piece -/
theorem wpList_make_sep {P : Program} {w0 w : World} {Γ : List Pc} {ops : Array Oper} {rest : List Oper} {o : Oper} {a : Act} {Q : Exit → Act → World → Prop}
    (hg : o.guard = none) (l c : Operand) (t : TypeId) (hop : o.op = Op.makeSlice t l c)
    (e : TypeId) (i : TypeInfo) (z : Value) (size : Nat) (h1 : P.underlying t = some (.slice e)) (h2 : P.info? e = some i) (h3 : i.zero = some z) (h4 : i.size = size)
    (L : Int) (n : Nat) (hl : a.eval l = .int .i64 L) (hc : a.eval c = .int .i64 L) (hL : L = (n : Int)) (b2 : i.bytes * n ≤ 281474976710656) (b3 : n ≤ maxLen) (S : Sep w0 w Γ)
    (hK : ∀ w', Sep w0 w' (.own e size (some ⟨w.heap.size, 0, none⟩) n n (madeCells z.cells (n * size)).toList :: Γ) → wpList P ops Q rest (a.put o.dst (.slice (some ⟨w.heap.size, 0, none⟩) n n)) w') :
    wpList P ops Q (o :: rest) a w :=
  wpList_make_full w hg l c t hop w.heap.size e i z size h1 h2 h3 h4 .i64 .i64 L L n hl hc hL hL b2 b3 (Nat.le_refl _) fun w' ho hgr =>
    hK w' (S.fresh ⟨hgr.os, hgr.tape, hgr.output, hgr.size, fun k hk => hgr.block k hk (by simp)⟩ ho (Nat.le_refl _))
set_option maxRecDepth 100000 in
set_option maxHeartbeats 4000000 in
theorem laidG (n : Nat) (p : Option Addr) (m c : Nat) (E : List (Int × Int)) (w : World) (hE : Rd w 2 p m (encE E)) (hn : n ≤ 200) (hm : m ≤ 2000) (hb : ∀ x ∈ E, 0 ≤ x.1 ∧ x.1 < n) :
    Calls Tryz.prog 73 #[.int .i64 n, .slice p m c] w fun e w' => ∃ qo co qt ct, e = .returned (.tuple #[.slice qo (n + 1) co, .slice qt m ct]) ∧ Sep w w' [.own 3 1 qt m ct (encI (toL E)), .own 3 1 qo (n + 1) co (encI (offL n E))] := by
  obtain ⟨i0, hi0, hz0, hz1, hz2⟩ := info_parts infI
  have p1 := hE.ptr
  have L1 := Lib.hid hE.nE
  have HB := Lib.hid hb
  clear hb
  have HE := Lib.hid hE; clear hE
  go_enter Tryz.func73, Tryz.ntmps73
  go_wp2_with (at_make; go_must (refine wpList_make_sep rfl _ _ _ rfl 3 i0 _ 1 Tryz.underlying22 hi0 hz0 hz1 ((n:Int) + 1) (n + 1) rfl rfl (by omega) (by rw [hz2]; omega) (by unfold maxLen; omega) (Sep.start w) ?_; intro w1 S'; rw [made_encI, ← cntL_nil] at S'; have S1 := Lib.hid S'; clear S'))
  generalize hqo : (some ⟨w.heap.size, 0, none⟩ : Option Addr) = qo at *
  clear hqo
  go_loopw [5, 7, 14] (fun t _ i wr => ∃ (k : Nat) (q : Option Addr) (d : Nat), k ≤ m ∧ i = .int .i64 k ∧ t = .slice q k d ∧ Sep w wr [.own 3 1 q k d (encI (toL (E.take k))), .own 3 1 qo (n + 1) (n + 1) (encI (cntL n (E.take k)))]) (fun _ _ i _ => m - (intOf i).toNat)
  case atStart => exact ⟨0, none, 0, Nat.zero_le _, rfl, rfl, S1.out.nilrow _ _⟩
  case round =>
    clear S1
    obtain ⟨k, q, d, hk, rfl, rfl, S⟩ := hrel
    by_cases hlt : k < m
    · have hkE : k < E.length := by rw [← L1.out]; exact hlt
      have e1 := S.ext.cell (HE.out.cE hlt)
      have e2 := S.ext.cell (HE.out.cE2 hlt)
      obtain ⟨b1, b2⟩ := HB.out _ (nth_mem hkE)
      obtain ⟨f, hf⟩ : ∃ f : Nat, (nth E k).1 = (f : Int) := ⟨(nth E k).1.toNat, by omega⟩
      have HT : Hid (toL (E.take (k + 1)) = toL (E.take k) ++ [(nth E k).2]) := by unfold Hid toL; rw [map_take_succ _ E k hkE]
      have HC : Hid (cntL n (E.take (k + 1)) = (cntL n (E.take k)).set (f + 1) (nth (cntL n (E.take k)) (f + 1) + 1)) := by
        unfold Hid; rw [take_succ_nth E k hkE]; exact cntL_step _ _ hf (by omega)
      rw [hf] at e1 b1 b2
      have c1 := (S.rd 1 rfl (by omega)).cI (k := f + 1) (by omega)
      have po := (S.rd 1 rfl (by omega)).ptr
      have fz := own_frozen (S.own 1 rfl) (by omega) (f + 1)
      have zz : (adr qo (f + 1)).block < wr.heap.size := (S.blt 1 rfl (by omega)).2
      have y0 : adr qo (f + 1) ≠ ⟨wr.heap.size, 1, none⟩ := fun e => by
        have e2 : (adr qo (f + 1)).block = wr.heap.size := by rw [e]
        omega
      have y1 : (⟨wr.heap.size, 1, none⟩ : Addr) ≠ adr qo (f + 1) := fun e => y0 e.symm
      have d1 : (0:Int) ≤ k := by omega
      have d2 : (k:Int) < m := by omega
      have d3 : (0:Int) ≤ (f:Int) + 1 := by omega
      have d4 : (f:Int) + 1 < ((n + 1 : Nat) : Int) := by omega
      have hcb : nth (cntL n (E.take k)) (f + 1) ≤ 2000 ∧ 0 ≤ nth (cntL n (E.take k)) (f + 1) := by
        rw [cntL_nth _ (by omega)]
        have h1 := List.countP_le_length (p := fun x : Int × Int => decide (x.1 + 1 = ((f + 1 : Nat):Int))) (l := E.take k)
        rw [List.length_take] at h1
        omega
      obtain ⟨u, hu⟩ : ∃ u, nth (cntL n (E.take k)) (f + 1) = u := ⟨_, rfl⟩
      rw [hu] at c1 hcb HC
      have SH := Lib.hid S; clear S
      clear hf hu hkE
      have SX := Lib.hid ((SH.out.junk (.cells #[.int .i64 (f:Int), .int .i64 (nth E k).2] 74)).setRow 1 rfl (f + 1) (by omega) (.int .i64 (u + 1)))
      go_wp2_with (at_builtin; go_must (refine wpList_append_sep rfl _ _ _ rfl 3 i0 _ 1 8 Tryz.underlying22 hi0 hz0 hz1 hz2 rfl (by omega) (SX.out.junk _) 0 q k d _ rfl rfl _ 1 1 _ rfl (Rd.oneIat _ _ _ _ (by simp [World.setCell])) (one_encI _) (by omega) (by omega) ?_; intro q' d' w' S' hsz; have S5 := Lib.hid S'; clear S' hsz))
      go_roundw
      case rel => exact ⟨k + 1, q', d', by omega, by go_num, rfl, by rw [HT.out, HC.out, encI_append, ← encI_set]; exact S5.out⟩
      case measure => simp [intOf]; omega
    · obtain rfl : k = m := by omega
      have HT : Hid (E.take k = E) := by unfold Hid; rw [List.take_of_length_le (by rw [← L1.out]; omega)]
      rw [HT.out, ← sumL_zero (fun x hx => (HB.out x hx).1)] at S
      have SH := Lib.hid S; clear S
      go_wp2
      go_loopw [8, 33] (fun _ i wr => ∃ v : Nat, v ≤ n ∧ i = .int .i64 v ∧ Sep w wr [.own 3 1 q k d (encI (toL E)), .own 3 1 qo (n + 1) (n + 1) (encI (sumL n E v))]) (fun _ i _ => n - (intOf i).toNat)
      case atStart => exact ⟨0, Nat.zero_le _, rfl, SH.out⟩
      case round =>
        clear SH
        obtain ⟨v, hv, rfl, S⟩ := hrel
        by_cases hlv : v < n
        · have c0 := (S.rd 1 rfl (by omega)).cI (k := v) (by omega)
          have c1 := (S.rd 1 rfl (by omega)).cI (k := v + 1) (by omega)
          have po := (S.rd 1 rfl (by omega)).ptr
          have fz := own_frozen (S.own 1 rfl) (by omega) (v + 1)
          have HC := Lib.hid (sumL_step E hlv)
          have bnd : ∀ j, j < n + 1 → 0 ≤ nth (sumL n E v) j ∧ nth (sumL n E v) j ≤ 2000 := fun j hj => by
            rw [sumL_nth _ hj]
            have := L1.out
            split
            · have h1 := List.countP_le_length (p := fun x : Int × Int => decide (x.1 < (j:Int))) (l := E)
              omega
            · have h1 := List.countP_le_length (p := fun x : Int × Int => decide (x.1 + 1 = (j:Int))) (l := E)
              omega
          have bd0 := bnd v (by omega)
          have bd1 := bnd (v + 1) (by omega)
          generalize nth (sumL n E v) v = x0 at *
          generalize nth (sumL n E v) (v + 1) = x1 at *
          have d1 : (0:Int) ≤ v := by omega
          have d2 : (v:Int) < n := by omega
          have d3 : (0:Int) ≤ (v:Int) + 1 := by omega
          have d4 : (v:Int) + 1 < ((n + 1 : Nat) : Int) := by omega
          have d5 : (v:Int) < ((n + 1 : Nat) : Int) := by omega
          clear bnd
          have SH := Lib.hid S; clear S
          go_wp2
          have y0 := fun x : ExtOf wr => x.ext.cell c0
          have y1 := fun x : ExtOf wr => x.ext.cell c1
          refine wp_region_mix [true, true, true, true, true, true, true, true, true, true, true] (fun _ _ _ => True) (by kernel_rfl) (by kernel_rfl) (by kernel_rfl) (fun _ _ _ _ _ h => h) ?_
          simp only [nfM]
          repeat (go_big_quiet_step ((fail)))
          refine wpQuiet_nil ⟨trivial, fun vs W1 hE _ => ?_⟩
          have S2 := SH.out.call hE
          have po2 := (S2.rd 1 rfl (by omega)).ptr
          have fz2 := own_frozen (S2.own 1 rfl) (by omega) (v + 1)
          have k1 := hE.cell c1
          have S3 := Lib.hid (S2.setRow 1 rfl (v + 1) (by omega) (.int .i64 (x1 + x0)))
          clear S2 y0 y1 c0 c1 fz
          simp only [putM, List.length_cons, List.length_nil, Nat.zero_add, Nat.reduceAdd, List.drop_succ_cons, List.drop_zero]
          go_wp2
          go_roundw
          case rel => exact ⟨v + 1, by omega, by go_num, by rw [HC.out, ← encI_set]; exact S3.out⟩
          case measure => simp [intOf]; omega
        · obtain rfl : v = n := by omega
          rw [sumL_end] at S
          have SH := Lib.hid S; clear S
          go_wp2
          go_ret2
          exact ⟨qo, _, q, d, rfl, SH.out⟩
end Go.Proofs.YthlmcfbadhidbaaGreat
namespace Go.Proofs.YthlmcfbadhidbaaGreat
open Go Go.RowKit
set_option maxRecDepth 100000 in
set_option maxHeartbeats 1000000 in
theorem CheckG (N : Int) (pe : Option Addr) (ne ce : Nat) (pw : Option Addr) (nw cw : Nat) (E : List (Int × Int)) (hs : List Hd) (W : List (List ByteArray)) (w : World) (hE : Rd w 2 pe ne (encE E)) (hW : RdW w pw nw hs W) (hz : SzW W) :
    Calls Tryz.prog 91 #[.agg #[.int .i64 N, .slice pe ne ce, .slice pw nw cw]] w fun e w' => e = .returned (.bool (checkB N E W)) ∧ Ext w w' := by
  have p1 := hE.ptr
  have p2 := hW.row.ptr
  have n1 := hE.small
  have n2 := hW.row.small
  have l1 := hE.nE
  have l2 := hW.nW
  have HE := Lib.hid hE; clear hE
  have HW := Lib.hid hW; clear hW
  have HZ := Lib.hid hz; clear hz
  by_cases hpre : 1 ≤ N ∧ N ≤ 200 ∧ ne ≤ 2000 ∧ (nw : Int) = N
  · obtain ⟨c1, c2, c3, rfl⟩ := hpre
    have YES : ∀ (h5 : E.all (edgeOk nw) = true) (h6 : W.all rowOk = true), checkB nw E W = true := checkB_yes c1 c2 (by omega) (by omega)
    have L1 := Lib.hid l1; clear l1
    have L2 := Lib.hid l2; clear l2
    have HY := Lib.hid YES; clear YES
    have t1 : ((nw : Int) != (nw : Int)) = false := by simp
    go_enter Tryz.func91, Tryz.ntmps91
    go_wp2
    go_loopw [4, 32] (fun _ i wr => ∃ k : Nat, k ≤ ne ∧ i = .int .i64 k ∧ (E.take k).all (edgeOk nw) = true ∧ Ext w wr ∧ GBox wr w.heap.size (nw : Int) pe ne ce pw nw cw) (fun _ i _ => ne - (intOf i).toNat)
    case atStart => exact ⟨0, Nat.zero_le _, rfl, rfl, (Below.refl _ _).alloc (Nat.le_refl _) _, GBox.new _ _⟩
    case round =>
      obtain ⟨k, hk, rfl, ha, hb, gb1⟩ := hrel
      have HA := Lib.hid ha; clear ha
      have HB := Lib.hid hb; clear hb
      have G1 := Lib.hid gb1
      obtain ⟨b0, b1, b2⟩ := gb1
      have z0 : w.heap.size < wr.heap.size := World.block_lt_of_cell? wr _ b0
      by_cases hlt : k < ne
      · have g1 := HB.out.cell (HE.out.cE hlt)
        have g2 := HB.out.cell (HE.out.cE2 hlt)
        by_cases hok : 0 ≤ (nth E k).1 ∧ (nth E k).1 < nw ∧ 0 ≤ (nth E k).2 ∧ (nth E k).2 < nw
        · have HO : Hid (edgeOk nw (nth E k) = true) := by unfold Hid edgeOk; exact decide_eq_true hok
          obtain ⟨o1, o2, o3, o4⟩ := hok
          go_wp2_with (first | (go_at_call 100; have _t := F1; refine (isPlaceG _ _ _ _ _ _ _ _ _).mono ?_; rintro e w3 ⟨rfl, hb3⟩; have F2 := Lib.hid (Ext.trans F1.out hb3); clear hb3) | (go_at_call 100; refine (isPlaceG _ _ _ _ _ _ _ _ _).mono ?_; rintro e w2 ⟨rfl, hb2⟩; have F1 := Lib.hid (Ext.trans (Ext.alloc (Below.refl wr.heap.size wr) _) hb2); have b0' := Ext.cell F1.out b0; have b1' := Ext.cell F1.out b1; have b2' := Ext.cell F1.out b2; have x0 := Ext.cell hb2 (cellnew0 _ _ _ _); have x1 := Ext.cell hb2 (cellnew1 _ _ _ _ _); clear hb2))
          go_roundw
          case rel => exact ⟨k + 1, by omega, by go_num, all_step _ _ _ (by rw [← L1.out]; exact hlt) HA.out HO.out, Ext.trans HB.out F2.out, G1.out.ext F2.out⟩
          case measure => simp [intOf]; omega
        · have HO : Hid (edgeOk nw (nth E k) = false) := by unfold Hid edgeOk; exact decide_eq_false hok
          have HF := Lib.hid (checkB_E (W := W) (by rw [← L1.out]; exact hlt) HO.out)
          clear HO
          by_cases o1 : 0 ≤ (nth E k).1
          · by_cases o2 : (nth E k).1 < nw
            · by_cases o3 : 0 ≤ (nth E k).2
              · have o4 : (nw : Int) ≤ (nth E k).2 := Int.not_lt.1 fun h => hok ⟨o1, o2, o3, h⟩
                have o5 : decide ((nth E k).2 < (nw : Int)) = false := by simp; omega
                clear hok
                go_wp2_with (first | (go_at_call 100; have _t := F1; refine (isPlaceG _ _ _ _ _ _ _ _ _).mono ?_; rintro e w3 ⟨rfl, hb3⟩; have F2 := Lib.hid (Ext.trans F1.out hb3); clear hb3) | (go_at_call 100; refine (isPlaceG _ _ _ _ _ _ _ _ _).mono ?_; rintro e w2 ⟨rfl, hb2⟩; have F1 := Lib.hid (Ext.trans (Ext.alloc (Below.refl wr.heap.size wr) _) hb2); have b0' := Ext.cell F1.out b0; have b1' := Ext.cell F1.out b1; have b2' := Ext.cell F1.out b2; have x0 := Ext.cell hb2 (cellnew0 _ _ _ _); have x1 := Ext.cell hb2 (cellnew1 _ _ _ _ _); clear hb2))
                go_ret
                exact ⟨ret_bool HF.out.symm, Ext.trans HB.out F2.out⟩
              · have o5 : decide (0 ≤ (nth E k).2) = false := by simp; omega
                clear hok
                go_wp2_with (first | (go_at_call 100; have _t := F1; refine (isPlaceG _ _ _ _ _ _ _ _ _).mono ?_; rintro e w3 ⟨rfl, hb3⟩; have F2 := Lib.hid (Ext.trans F1.out hb3); clear hb3) | (go_at_call 100; refine (isPlaceG _ _ _ _ _ _ _ _ _).mono ?_; rintro e w2 ⟨rfl, hb2⟩; have F1 := Lib.hid (Ext.trans (Ext.alloc (Below.refl wr.heap.size wr) _) hb2); have b0' := Ext.cell F1.out b0; have b1' := Ext.cell F1.out b1; have b2' := Ext.cell F1.out b2; have x0 := Ext.cell hb2 (cellnew0 _ _ _ _); have x1 := Ext.cell hb2 (cellnew1 _ _ _ _ _); clear hb2))
                go_ret
                exact ⟨ret_bool HF.out.symm, Ext.trans HB.out F2.out⟩
            · have o5 : decide ((nth E k).1 < (nw : Int)) = false := by simp; omega
              clear hok
              go_wp2_with (first | (go_at_call 100; have _t := F1; refine (isPlaceG _ _ _ _ _ _ _ _ _).mono ?_; rintro e w3 ⟨rfl, hb3⟩; have F2 := Lib.hid (Ext.trans F1.out hb3); clear hb3) | (go_at_call 100; refine (isPlaceG _ _ _ _ _ _ _ _ _).mono ?_; rintro e w2 ⟨rfl, hb2⟩; have F1 := Lib.hid (Ext.trans (Ext.alloc (Below.refl wr.heap.size wr) _) hb2); have b0' := Ext.cell F1.out b0; have b1' := Ext.cell F1.out b1; have b2' := Ext.cell F1.out b2; have x0 := Ext.cell hb2 (cellnew0 _ _ _ _); have x1 := Ext.cell hb2 (cellnew1 _ _ _ _ _); clear hb2))
              go_ret
              exact ⟨ret_bool HF.out.symm, Ext.trans HB.out F1.out⟩
          · have o5 : decide (0 ≤ (nth E k).1) = false := by simp; omega
            clear hok
            go_wp2_with (first | (go_at_call 100; have _t := F1; refine (isPlaceG _ _ _ _ _ _ _ _ _).mono ?_; rintro e w3 ⟨rfl, hb3⟩; have F2 := Lib.hid (Ext.trans F1.out hb3); clear hb3) | (go_at_call 100; refine (isPlaceG _ _ _ _ _ _ _ _ _).mono ?_; rintro e w2 ⟨rfl, hb2⟩; have F1 := Lib.hid (Ext.trans (Ext.alloc (Below.refl wr.heap.size wr) _) hb2); have b0' := Ext.cell F1.out b0; have b1' := Ext.cell F1.out b1; have b2' := Ext.cell F1.out b2; have x0 := Ext.cell hb2 (cellnew0 _ _ _ _); have x1 := Ext.cell hb2 (cellnew1 _ _ _ _ _); clear hb2))
            go_ret
            exact ⟨ret_bool HF.out.symm, Ext.trans HB.out F1.out⟩
      · have HEE := Lib.hid (all_end _ _ _ (by rw [← L1.out]; exact hlt) HA.out)
        go_wp2
        clear hlt HA hk
        obtain ⟨wo, rfl⟩ : ∃ wo : World, wo = wr := ⟨_, rfl⟩
        go_loop [6, 52] (fun _ i => ∃ k : Nat, k ≤ nw ∧ i = .int .i64 k ∧ (W.take k).all rowOk = true) (fun _ i => nw - (intOf i).toNat)
        case atStart => exact ⟨0, Nat.zero_le _, rfl, rfl⟩
        case round =>
          obtain ⟨k, hk, rfl, ha⟩ := hrel
          have HA := Lib.hid ha; clear ha
          by_cases hlt : k < nw
          · have g1 := HB.out.cell (HW.out.row.cH hlt)
            have q1 := (HW.out.each k hlt).ext HB.out
            have l3 := q1.nS
            have Q1 := Lib.hid q1; clear q1
            have L3 := Lib.hid l3; clear l3
            have hsz := Lib.hid (HZ.out (nth W k) (by rw [nth_eq (by rw [← L2.out]; exact hlt)]; exact List.getElem_mem _))
            by_cases h8 : (nth hs k).n ≤ 8
            · by_cases hw : (nth W k).any (fun s => !wordB s) = true
              · have HF := Lib.hid (checkB_W (N := nw) (E := E) (k := k) (W := W) (by rw [← L2.out]; exact hlt) (by unfold rowOk; rw [show (nth W k).all wordB = false from by rw [← Bool.not_eq_true, List.all_eq_not_any_not, hw]; simp]; rfl))
                go_wp2_with (go_at_call 101; refine (ContainsWord _ _ _ _ _ Q1.out hsz.out).mono ?_; rintro e w' ⟨rfl, rfl⟩)
                go_ret
                exact ⟨ret_bool HF.out.symm, HB.out⟩
              · have hw' : (nth W k).any (fun s => !wordB s) = false := by simpa using hw
                have HW' := Lib.hid hw'
                clear hw
                go_wp2_with (go_at_call 101; refine (ContainsWord _ _ _ _ _ Q1.out hsz.out).mono ?_; rintro e w' ⟨rfl, rfl⟩)
                go_round
                case rel => exact ⟨k + 1, by omega, by go_num, all_step _ _ _ (by rw [← L2.out]; exact hlt) HA.out (by unfold rowOk; rw [List.all_eq_not_any_not, HW'.out, ← L3.out]; simp [h8])⟩
                case measure => simp [intOf]; omega
            · have HF := Lib.hid (checkB_W (N := nw) (E := E) (k := k) (W := W) (by rw [← L2.out]; exact hlt) (by unfold rowOk; rw [← L3.out]; simp [h8]))
              go_wp2
              go_ret
              exact ⟨ret_bool HF.out.symm, HB.out⟩
          · have HR := Lib.hid (all_end _ _ _ (by rw [← L2.out]; exact hlt) HA.out)
            go_wp2
            go_ret
            exact ⟨ret_bool (HY.out HEE.out HR.out).symm, HB.out⟩
  · have HF := Lib.hid (checkB_pre (N := N) (E := E) (W := W) (by rw [← l1, ← l2]; exact hpre))
    clear l1 l2 HE HW HZ p1 p2
    have h1 : ∀ o1 : Obj, Ext w (w.alloc o1) := fun o1 => (Below.refl _ _).alloc (Nat.le_refl _) _
    by_cases c1 : 1 ≤ N
    · by_cases c2 : N ≤ 200
      · by_cases c3 : ne ≤ 2000
        · have c4 : ((nw : Int) != N) = true := by rw [bne_iff_ne]; exact fun h => hpre ⟨c1, c2, c3, h⟩
          clear hpre
          go_enter Tryz.func91, Tryz.ntmps91
          go_wp2
          go_ret
          exact ⟨ret_bool HF.out.symm, h1 _⟩
        · clear hpre
          go_enter Tryz.func91, Tryz.ntmps91
          go_wp2
          go_ret
          exact ⟨ret_bool HF.out.symm, h1 _⟩
      · clear hpre
        go_enter Tryz.func91, Tryz.ntmps91
        go_wp2
        go_ret
        exact ⟨ret_bool HF.out.symm, h1 _⟩
    · clear hpre
      go_enter Tryz.func91, Tryz.ntmps91
      go_wp2
      go_ret
      exact ⟨ret_bool HF.out.symm, h1 _⟩
end Go.Proofs.YthlmcfbadhidbaaGreat
/- The program's Normal: a graph in memory of its own. -/
namespace Go.Proofs.YthlmcfbadhidbaaGreat
open Go Go.RowKit Go.Shelf Go.Lib Go.Sort
theorem allLt_zero {p : Nat → Prop} : ∀ i, i < 0 → p i := fun i h => absurd h (Nat.not_lt_zero i)
theorem allLt_succ {n : Nat} {p : Nat → Prop} (h : ∀ i, i < n → p i) (hn : p n) : ∀ i, i < n + 1 → p i := fun i hi => by
  rcases Nat.lt_or_ge i n with h1 | h1
  · exact h i h1
  · obtain rfl : i = n := by omega
    exact hn
/-- a graph in memory of the call's own -/
def GraphO (w : World) (base : Nat) (v : Value) (N : Int) (E : List (Int × Int)) (W : List (List ByteArray)) : Prop :=
  ∃ pe ce pw cw hs, v = .agg #[.int .i64 N, .slice pe E.length ce, .slice pw W.length cw] ∧ w.ownsRow base 74 2 (.slice pe E.length ce) E.length (encE E) ∧ OwnW w base pw W.length cw hs W
set_option maxRecDepth 100000 in
set_option maxHeartbeats 1000000 in
theorem NormalG_no (N : Int) (pe : Option Addr) (ne ce : Nat) (pw : Option Addr) (nw cw : Nat) (E : List (Int × Int)) (hs : List Hd) (W : List (List ByteArray)) (w : World) (hE : Rd w 2 pe ne (encE E)) (hW : RdW w pw nw hs W) (hz : SzW W) (hc : checkB N E W = false) :
    Calls Tryz.prog 96 #[.agg #[.int .i64 N, .slice pe ne ce, .slice pw nw cw]] w fun e w' => e = .returned (.tuple #[.agg #[.int .i64 0, .slice none 0 0, .slice none 0 0], .int .i64 20]) ∧ Ext w w' := by
  have HE := Lib.hid hE; clear hE
  have HW := Lib.hid hW; clear hW
  have HZ := Lib.hid hz; clear hz
  go_enter Tryz.func96, Tryz.ntmps96
  go_wp2_with (go_at_call 91; refine (CheckG _ _ _ _ _ _ _ E hs W _ (HE.out.ext (alloc2 w _ _).2.2) (HW.out.ext (alloc2 w _ _).2.2) HZ.out).mono ?_; rintro e w1 ⟨rfl, hb1⟩; have BR : Blk w1 (w.heap.size + 1) _ _ := (hb1.block _ (by simp)).trans (alloc2 w _ _).2.1; have r0 := BR.cell 0; have r1 := BR.cell 1; have r2 := BR.cell 2; have k0 := BR.frozen 0; have k1 := BR.frozen 1; have k2 := BR.frozen 2; have HB := Lib.hid (Ext.trans (alloc2 w _ _).2.2 hb1); have BR0 := Lib.hid BR; clear BR hb1)
  have B0 := BR0.out
  have B1 := B0.set_ 0 (.int .i64 0)
  have B2 := B1.set_ 1 (.slice none 0 0)
  have c0 := (B2.set_ 2 (.slice none 0 0)).cell 0
  have c1' := (B2.set_ 2 (.slice none 0 0)).cell 1
  have c2 := (B2.set_ 2 (.slice none 0 0)).cell 2
  refine bodyPost_ret (v := .tuple #[.agg #[.int .i64 0, .slice none 0 0, .slice none 0 0], .int .i64 20]) (by simp [results, Tryz.results96, go_sem, c0, c1', c2, Tryz.sizeOf78, Tryz.isAgg78]) rfl ⟨rfl, ?_⟩
  exact ((HB.out.setCell (by simp) _).setCell (by simp) _).setCell (by simp) _
/-- what the operations of the first composite tell -/
def R3 (b : Nat) (wz N : Nat) (pe : Option Addr) (ne ce : Nat) (D : List (Int × Int)) (i : Nat) (v : Value) (W : World) : Prop :=
  match i with
  | 0 => v = .pointer (some ⟨b, 0, none⟩)
  | 1 => v = .int .i64 N
  | 2 => v = .pointer (some ⟨b, 1, none⟩)
  | 3 => v = .slice pe ne ce
  | 4 => v = .agg #[.func (.func 104) #[] #[]]
  | 5 => ∃ q c, v = .slice q D.length c ∧ W.ownsRow wz 74 2 (.slice q D.length c) D.length (encE D)
  | 6 => ∃ q c, v = .agg #[.int .i64 N, .slice q D.length c, .slice none 0 0] ∧ W.ownsRow wz 74 2 (.slice q D.length c) D.length (encE D)
  | 7 => ∃ g, v = .pointer (some ⟨g, 0, none⟩) ∧ wz ≤ g ∧ Blk W g 78 #[.int .i64 0, .slice none 0 0, .slice none 0 0]
  | _ => True
theorem R3_mono {b wz N : Nat} {pe : Option Addr} {ne ce : Nat} {D : List (Int × Int)} : ∀ i v W W', Ext W W' → R3 b wz N pe ne ce D i v W → R3 b wz N pe ne ce D i v W' := by
  intro i v W W' he h
  match i with
  | 0 => exact h
  | 1 => exact h
  | 2 => exact h
  | 3 => exact h
  | 4 => exact h
  | 5 => obtain ⟨q, c, h1, h2⟩ := h; exact ⟨q, c, h1, he.own h2⟩
  | 6 => obtain ⟨q, c, h1, h2⟩ := h; exact ⟨q, c, h1, he.own h2⟩
  | 7 => obtain ⟨g, h1, h2, h3⟩ := h; exact ⟨g, h1, h2, h3.ext he⟩
  | _ + 8 => trivial
/-- what the operations of the loop's append tell -/
def R7 (wz g : Nat) (qh : Option Addr) (j ch : Nat) (pl : Option Addr) (nl cl : Nat) (D : List ByteArray) (i : Nat) (v : Value) (W : World) : Prop :=
  match i with
  | 0 => v = .pointer (some ⟨g, 2, none⟩)
  | 1 => v = .slice qh j ch
  | 2 => v = .slice pl nl cl
  | 3 => v = .agg #[.func (.func 99) #[] #[]]
  | 4 => ∃ q c, v = .slice q D.length c ∧ W.ownsRow wz 9 1 (.slice q D.length c) D.length (encS D)
  | 5 => ∃ q c a, v = .slice a 1 1 ∧ Rd W 1 a 1 [.slice q D.length c] ∧ W.ownsRow wz 9 1 (.slice q D.length c) D.length (encS D)
  | _ => True
theorem R7_mono {wz g : Nat} {qh : Option Addr} {j ch : Nat} {pl : Option Addr} {nl cl : Nat} {D : List ByteArray} : ∀ i v W W', Ext W W' → R7 wz g qh j ch pl nl cl D i v W → R7 wz g qh j ch pl nl cl D i v W' := by
  intro i v W W' he h
  match i with
  | 0 => exact h
  | 1 => exact h
  | 2 => exact h
  | 3 => exact h
  | 4 => obtain ⟨q, c, h1, h2⟩ := h; exact ⟨q, c, h1, he.own h2⟩
  | 5 => obtain ⟨q, c, a, h1, h2, h3⟩ := h; exact ⟨q, c, a, h1, h2.ext he, he.own h3⟩
  | _ + 6 => trivial
set_option maxRecDepth 100000 in
set_option maxHeartbeats 2000000 in
theorem NormalG_yes (N : Int) (pe : Option Addr) (ne ce : Nat) (pw : Option Addr) (nw cw : Nat) (E : List (Int × Int)) (hs : List Hd) (W : List (List ByteArray)) (w : World) (hE : Rd w 2 pe ne (encE E)) (hW : RdW w pw nw hs W) (hz : SzW W) (hc : checkB N E W = true) :
    Calls Tryz.prog 96 #[.agg #[.int .i64 N, .slice pe ne ce, .slice pw nw cw]] w fun e w' => ∃ v, e = .returned (.tuple #[v, .int .i64 0]) ∧ GraphO w' w.heap.size v N (dedup (sortBy lessE E)) (W.map fun l => dedup (sortBy sLess l)) ∧ Ext w w' := by
  obtain ⟨j0, hj0, hy0, hy1, hy2⟩ := info_parts inf35
  obtain ⟨_, hN, hE2, hWN, _, hW8⟩ := checkB_parts hc
  have hW9 := rowOk_len hW8
  have p1 := hE.ptr
  have p2 := hW.row.ptr
  have l1 := hE.nE
  have l2 := hW.nW
  have n1 : ne ≤ 2000 := by omega
  have n2 : nw ≤ 200 := by omega
  obtain rfl : N = (nw : Int) := by omega
  have HE := Lib.hid hE; clear hE
  have HW := Lib.hid hW; clear hW
  have HZ := Lib.hid hz; clear hz
  have L1 := Lib.hid l1; clear l1
  have L2 := Lib.hid l2; clear l2
  have H9 := Lib.hid hW9; clear hW9
  clear hW8 hE2 hN hWN
  go_enter Tryz.func96, Tryz.ntmps96
  go_wp2_with (go_at_call 91; refine (CheckG _ _ _ _ _ _ _ E hs W _ (HE.out.ext (alloc2 w _ _).2.2) (HW.out.ext (alloc2 w _ _).2.2) HZ.out).mono ?_; rintro e w1 ⟨rfl, hb1⟩; have BG : Blk w1 w.heap.size _ _ := (hb1.block _ (by simp; omega)).trans (alloc2 w _ _).1; have BR : Blk w1 (w.heap.size + 1) _ _ := (hb1.block _ (by simp)).trans (alloc2 w _ _).2.1; have g0 := BG.cell 0; have g1 := BG.cell 1; have zb := BR.lt; have HB := Lib.hid (Ext.trans (alloc2 w _ _).2.2 hb1); have BR0 := Lib.hid BR; have BG0 := Lib.hid BG; clear BR BG hb1)
  refine wp_region_head 8 [11, 12, 13, 14, 15, 16, 17, 4] (R3 w.heap.size w1.heap.size nw pe ne ce (dedup (sortBy lessE E))) (by kernel_rfl) (by kernel_rfl) (by kernel_rfl) R3_mono ?_ ?_
  · refine allLt_succ (allLt_succ (allLt_succ (allLt_succ (allLt_succ (allLt_succ (allLt_succ (allLt_succ allLt_zero ?_) ?_) ?_) ?_) ?_) ?_) ?_) ?_ <;> intro ev vs W2 hE2 hin hout hcs hf hg hd o ho <;> obtain rfl := Option.some.inj ho
    · have e1 := hout 1 rfl
      simp [go_sem] at e1
      simp [execOp, go_sem, e1]
      exact ⟨rfl, Below.refl _ _⟩
    · have e1 : _ = Value.pointer _ := (hin 11 0 rfl).trans (hd 0 (by decide))
      have c := (BG0.out.ext hE2).cell 0
      simp [execOp, go_sem, e1, c]
      exact ⟨rfl, Below.refl _ _⟩
    · have e1 := hout 1 rfl
      simp [go_sem] at e1
      simp [execOp, go_sem, e1]
      exact ⟨rfl, Below.refl _ _⟩
    · have e1 : _ = Value.pointer _ := (hin 13 2 rfl).trans (hd 2 (by decide))
      have c := (BG0.out.ext hE2).cell 1
      simp [execOp, go_sem, e1, c]
      exact ⟨rfl, Below.refl _ _⟩
    · have e1 := hf 93
      simp [go_sem] at e1
      simp [execOp, go_sem, e1]
      exact (EdgesG W2).mono fun e w' ⟨h1, h2⟩ => ⟨_, h1, rfl, h2⟩
    · have e1 := hf 108
      have e2 : _ = Value.slice _ _ _ := (hin 14 3 rfl).trans (hd 3 (by decide))
      have e3 : _ = Value.agg _ := (hin 15 4 rfl).trans (hd 4 (by decide))
      simp [go_sem] at e1
      simp [execOp, go_sem, e1, e2, e3]
      exact (OnceE _ _ _ E W2 (HE.out.ext (Ext.trans HB.out hE2)) (by omega)).mono fun e w' ⟨q, c, h1, h2, h3⟩ => ⟨_, h1, ⟨q, c, rfl, own_base h2 hE2.size⟩, h3⟩
    · have e1 : _ = Value.int _ _ := (hin 12 1 rfl).trans (hd 1 (by decide))
      obtain ⟨q, c, e2, e3⟩ := (hd 5 (by decide) : R3 _ _ _ _ _ _ _ 5 (vs 5) W2)
      have e4 := (hin 16 5 rfl).trans e2
      simp [execOp, go_sem, e1, e4]
      exact ⟨⟨q, c, rfl, e3⟩, Below.refl _ _⟩
    · simp [execOp, go_sem]
      exact ⟨⟨_, rfl, hE2.size, Blk.new _ _ _⟩, (Below.refl _ _).alloc (Nat.le_refl _) _⟩
  · intro vs W2 hE2 hR
    have r0 : vs 0 = _ := hR 0 (by decide)
    have r1 : vs 1 = _ := hR 1 (by decide)
    have r2 : vs 2 = _ := hR 2 (by decide)
    have r3 : vs 3 = _ := hR 3 (by decide)
    have r4 : vs 4 = _ := hR 4 (by decide)
    obtain ⟨q5, c5, r5, _⟩ := hR 5 (by decide)
    obtain ⟨q, cq, r6, own⟩ := hR 6 (by decide)
    obtain ⟨g, r7, hg, BO⟩ := hR 7 (by decide)
    simp only [putHd, List.mapIdx_toArray, List.mapIdx_cons, List.mapIdx_nil, Nat.zero_add, Nat.reduceAdd]
    simp [List.idxOf?_cons, List.idxOf?_nil, r0, r1, r2, r3, r4, r5, r6, r7]
    have s2 := hE2.size
    have hbw : w.heap.size + 1 < W2.heap.size := by omega
    have B1 := BO.set_ 0 (.int .i64 nw)
    have B2 := B1.set_ 1 (.slice q (dedup (sortBy lessE E)).length cq)
    have B3 := B2.set_ 2 (.slice none 0 0)
    have BOx := Lib.hid B3
    have OEx := Lib.hid (own_set (own_set (own_set own BO (by decide) 0 (.int .i64 nw)) B1 (by decide) 1 (.slice q (dedup (sortBy lessE E)).length cq)) B2 (by decide) 2 (.slice none 0 0))
    have b0 := BO.cell 0
    have b1 := BO.cell 1
    have b2 := BO.cell 2
    have f0 := BO.frozen 0
    have f1 := BO.frozen 1
    have f2 := BO.frozen 2
    have HGL := Lib.hid BO.lt
    have hgw : w.heap.size + 1 < g := by omega
    have BGx := Lib.hid ((((BG0.out.ext hE2).far (p := ⟨g, 0, none⟩) (by simp; omega) (.int .i64 nw)).far (p := ⟨g, 1, none⟩) (by simp; omega) (.slice q (dedup (sortBy lessE E)).length cq)).far (p := ⟨g, 2, none⟩) (by simp; omega) (.slice none 0 0))
    have BRx := Lib.hid ((((BR0.out.ext hE2).far (p := ⟨g, 0, none⟩) (by simp; omega) (.int .i64 nw)).far (p := ⟨g, 1, none⟩) (by simp; omega) (.slice q (dedup (sortBy lessE E)).length cq)).far (p := ⟨g, 2, none⟩) (by simp; omega) (.slice none 0 0))
    have HX := Lib.hid ((((Ext.trans HB.out hE2).setCell (p := ⟨g, 0, none⟩) (by simp; omega) (.int .i64 nw)).setCell (p := ⟨g, 1, none⟩) (by simp; omega) (.slice q (dedup (sortBy lessE E)).length cq)).setCell (p := ⟨g, 2, none⟩) (by simp; omega) (.slice none 0 0))
    have gx := BGx.out.cell 2
    clear g0 g1 BG0 BR0 HB B1 B2 B3 own BO
    go_wp2
    go_loopw [6, 21] (fun _ i wr => ∃ (j : Nat) (qh : Option Addr) (ch : Nat) (hs' : List Hd), j ≤ nw ∧ i = .int .i64 j ∧ OwnW wr W2.heap.size qh j ch hs' ((W.take j).map fun l => dedup (sortBy sLess l)) ∧ wr.ownsRow w1.heap.size 74 2 (.slice q (dedup (sortBy lessE E)).length cq) (dedup (sortBy lessE E)).length (encE (dedup (sortBy lessE E))) ∧
        Blk wr w.heap.size 78 #[.int .i64 nw, .slice pe ne ce, .slice pw nw cw] ∧ Blk wr (w.heap.size + 1) 78 #[.int .i64 0, .slice none 0 0, .slice none 0 0] ∧ Blk wr g 78 #[.int .i64 nw, .slice q (dedup (sortBy lessE E)).length cq, .slice qh j ch] ∧ Ext w wr ∧ W2.heap.size ≤ wr.heap.size) (fun _ i _ => nw - (intOf i).toNat)
    case atStart => exact ⟨0, none, 0, [], Nat.zero_le _, rfl, OwnW.nil _ _, OEx.out, BGx.out, BRx.out, BOx.out, HX.out, by simp [World.setCell]⟩
    case round =>
      clear gx OEx BGx BRx BOx HX
      obtain ⟨j, qh, ch, hs', hj, rfl, OW, OE, BG, BR, BO, HB, HZZ⟩ := hrel
      have g2 := BG.cell 2
      have o0 := BO.cell 0
      have o1 := BO.cell 1
      have o2 := BO.cell 2
      have r0 := BR.cell 0
      have r1 := BR.cell 1
      have r2 := BR.cell 2
      have q0 := BR.frozen 0
      have q1 := BR.frozen 1
      have q2 := BR.frozen 2
      have OW0 := Lib.hid OW; clear OW
      have OE0 := Lib.hid OE; clear OE
      have BG0 := Lib.hid BG; clear BG
      have BR0 := Lib.hid BR; clear BR
      have BO0 := Lib.hid BO; clear BO
      have HB0 := Lib.hid HB; clear HB
      by_cases hjt : j < nw
      · have gh := HB0.out.cell (HW.out.row.cH hjt)
        have QS := Lib.hid ((HW.out.each j hjt).ext HB0.out)
        have hlen : (nth hs j).n ≤ 8 := by rw [QS.out.nS]; exact H9.out _ (by rw [nth_eq (by rw [← L2.out]; exact hjt)]; exact List.getElem_mem _)
        have HT2 := Lib.hid (map_take_succ (fun l => dedup (sortBy sLess l)) W j (by rw [← L2.out]; exact hjt))
        have m1 : (nth hs j).n ≤ 1000000 := by omega
        have m3 : (j + 1) * 24 ≤ 140737488355328 := by omega
        have m4 : j + 1 ≤ 140737488355328 := by omega
        have M3 := Lib.hid m3; clear m3
        have M4 := Lib.hid m4; clear m4
        go_wp2
        refine wp_region_head 6 [25, 26, 27, 28, 29, 30] (R7 wr.heap.size g qh j ch (nth hs j).p (nth hs j).n (nth hs j).c (dedup (sortBy sLess (nth W j)))) (by kernel_rfl) (by kernel_rfl) (by kernel_rfl) R7_mono ?_ ?_
        · refine allLt_succ (allLt_succ (allLt_succ (allLt_succ (allLt_succ (allLt_succ allLt_zero ?_) ?_) ?_) ?_) ?_) ?_ <;> intro ev vs W3 hE3 hin hout hcs hf hg3 hd o ho <;> obtain rfl := Option.some.inj ho
          · have e1 := hout 4 rfl
            simp [go_sem] at e1
            simp [execOp, go_sem, e1]
            exact ⟨rfl, Below.refl _ _⟩
          · have e1 : _ = Value.pointer _ := (hin 25 0 rfl).trans (hd 0 (by decide))
            have c := (BO0.out.ext hE3).cell 2
            simp [execOp, go_sem, e1, c]
            exact ⟨rfl, Below.refl _ _⟩
          · have e1 := hout 6 rfl
            simp [go_sem] at e1
            simp [execOp, go_sem, e1]
            exact ⟨rfl, Below.refl _ _⟩
          · have e1 := hf 90
            simp [go_sem] at e1
            simp [execOp, go_sem, e1]
            exact (WordsG W3).mono fun e w' ⟨h1, h2⟩ => ⟨_, h1, rfl, h2⟩
          · have e1 := hf 109
            have e2 : _ = Value.slice _ _ _ := (hin 27 2 rfl).trans (hd 2 (by decide))
            have e3 : _ = Value.agg _ := (hin 28 3 rfl).trans (hd 3 (by decide))
            simp [go_sem] at e1
            simp [execOp, go_sem, e1, e2, e3]
            exact (OnceS _ _ _ (nth W j) W3 (QS.out.ext hE3) (by omega)).mono fun e w' ⟨q, c, h1, h2, h3⟩ => ⟨_, h1, ⟨q, c, rfl, own_base h2 hE3.size⟩, h3⟩
          · obtain ⟨q, c, e2, e3⟩ := (hd 4 (by decide) : R7 _ _ _ _ _ _ _ _ _ 4 (vs 4) W3)
            have e4 := (hin 29 4 rfl).trans e2
            simp [execOp, go_sem, e4]
            exact ⟨⟨q, c, _, rfl, Rd.oneH _ _ _ _ _, e3.alloc _⟩, (Below.refl _ _).alloc (Nat.le_refl _) _⟩
        · intro vs W3 hE3 hR3
          have r0 : vs 0 = _ := hR3 0 (by decide)
          have r1 : vs 1 = _ := hR3 1 (by decide)
          have r2 : vs 2 = _ := hR3 2 (by decide)
          have r3 : vs 3 = _ := hR3 3 (by decide)
          obtain ⟨q4, c4, r4, _⟩ := hR3 4 (by decide)
          obtain ⟨p', d', a', r5, RA, OR⟩ := hR3 5 (by decide)
          have OR1 := Lib.hid (own_base OR HZZ)
          have RA1 := Lib.hid RA
          have HX2 := Lib.hid hE3
          have OW2 := Lib.hid (OW0.out.ext hE3)
          have BO2 := Lib.hid (BO0.out.ext hE3)
          have BG2 := Lib.hid (BG0.out.ext hE3)
          have BR2 := Lib.hid (BR0.out.ext hE3)
          have OE2 := Lib.hid (hE3.own OE0.out)
          have HB2 := Lib.hid (Ext.trans HB0.out hE3)
          have hz3 : W2.heap.size ≤ W3.heap.size := Nat.le_trans HZZ hE3.size
          simp only [putHd, List.mapIdx_toArray, List.mapIdx_cons, List.mapIdx_nil, Nat.zero_add, Nat.reduceAdd]
          simp [List.idxOf?_cons, List.idxOf?_nil, r0, r1, r2, r3, r4, r5]
          clear r0 r1 r2 r3 r4 r5 OR RA hE3 hR3
          go_wp2_with (at_builtin; go_must ((refine wpList_append_rd rfl _ _ _ rfl W2.heap.size 129 j0 _ 1 24 Tryz.underlying76 hj0 hy0 hy1 hy2 rfl (by omega) qh j ch _ rfl OW2.out.row a' 1 1 _ rfl RA1.out (one_slice _ _ _) M3.out M4.out hz3 ?_; intro q3 c3 w3 own3 hg3 hat3 hl3; have BO3 : Blk w3 g _ _ := (hl3.block g HGL.out).trans BO2.out; have BG3 : Blk w3 w.heap.size _ _ := (hl3.block _ (by omega)).trans BG2.out; have BR3 : Blk w3 (w.heap.size + 1) _ _ := (hl3.block _ (by omega)).trans BR2.out; have HB3 := Lib.hid (Below.trans HB2.out (hl3.mono (by omega))); have OE3 := Lib.hid (own_grown OE2.out hg3 (own_own_ne OW2.out.row OE2.out (by decide))); have OW3 := Lib.hid (OwnW.push OW2.out OR1.out own3 hg3); have x2 := BO3.cell 2; have xf := BO3.frozen 2; have BO4 := Lib.hid BO3; have BG4 := Lib.hid BG3; have BR4 := Lib.hid BR3; have HS3 := hl3.size; clear own3 hg3 hat3 hl3 BO3 BG3 BR3)))
          go_roundw
          case rel => exact ⟨j + 1, q3, c3, _, by omega, by go_num, by rw [HT2.out]; exact OW3.out.set_ BO4.out (by decide) (by decide) _ _, own_set OE3.out BO4.out (by decide) _ _, BG4.out.far (by simp; omega) _, BR4.out.far (by simp; omega) _, BO4.out.set_ 2 _, HB3.out.setCell (by simp; omega) _, by simp [World.setCell]; omega⟩
          case measure => simp [intOf]; omega
      · have hjn : j = nw := by omega
        subst hjn
        have HT2 : Hid ((W.take j).map (fun l => dedup (sortBy sLess l)) = W.map (fun l => dedup (sortBy sLess l))) := by unfold Hid; rw [List.take_of_length_le (by rw [← L2.out]; omega)]
        go_wp2
        have B0 := BR0.out
        have B1 := B0.set_ 0 (.int .i64 j)
        have B2 := B1.set_ 1 (.slice q (dedup (sortBy lessE E)).length cq)
        have c0 := (B2.set_ 2 (.slice qh j ch)).cell 0
        have c1' := (B2.set_ 2 (.slice qh j ch)).cell 1
        have c2 := (B2.set_ 2 (.slice qh j ch)).cell 2
        refine bodyPost_ret (v := .tuple #[.agg #[.int .i64 j, .slice q (dedup (sortBy lessE E)).length cq, .slice qh j ch], .int .i64 0]) (by simp [results, Tryz.results96, go_sem, c0, c1', c2, Tryz.sizeOf78, Tryz.isAgg78]) rfl ⟨_, rfl, ?_, ?_⟩
        · have OW := ((OW0.out.set_ B0 (by decide) (by decide) 0 (.int .i64 j)).set_ B1 (by decide) (by decide) 1 (.slice q (dedup (sortBy lessE E)).length cq)).set_ B2 (by decide) (by decide) 2 (.slice qh j ch)
          have OE := own_set (own_set (own_set OE0.out B0 (by decide) 0 (.int .i64 j)) B1 (by decide) 1 (.slice q (dedup (sortBy lessE E)).length cq)) B2 (by decide) 2 (.slice qh j ch)
          rw [HT2.out] at OW
          have hl := OW.len
          exact ⟨q, cq, qh, ch, hs', by rw [← hl], own_base OE (by omega), by rw [← hl]; exact ⟨OW.hn, own_base OW.row (by omega), fun j hj => own_base (OW.each j hj) (by omega)⟩⟩
        · exact ((HB0.out.setCell (by simp) _).setCell (by simp) _).setCell (by simp) _
theorem NormalG0 (N : Int) (pe : Option Addr) (ne ce : Nat) (pw : Option Addr) (nw cw : Nat) (E : List (Int × Int)) (hs : List Hd) (W : List (List ByteArray)) (w : World) (hE : Rd w 2 pe ne (encE E)) (hW : RdW w pw nw hs W) (hz : SzW W) :
    Calls Tryz.prog 96 #[.agg #[.int .i64 N, .slice pe ne ce, .slice pw nw cw]] w fun e w' => ∃ v, e = .returned (.tuple #[v, .int .i64 (normC N E W)]) ∧ GraphO w' w.heap.size v (if checkB N E W then N else 0) (if checkB N E W then dedup (sortBy lessE E) else []) (if checkB N E W then W.map fun l => dedup (sortBy sLess l) else []) ∧ Ext w w' := by
  unfold normC
  by_cases hc : checkB N E W = true
  · simp only [hc, if_true]
    exact NormalG_yes N pe ne ce pw nw cw E hs W w hE hW hz hc
  · have hc' : checkB N E W = false := by simpa using hc
    simp only [hc']
    refine (NormalG_no N pe ne ce pw nw cw E hs W w hE hW hz hc').mono fun e w' ⟨he, hb⟩ => ⟨_, he, ?_, hb⟩
    exact ⟨none, 0, none, 0, [], rfl, World.ownsRow_nil _ _ _ _, OwnW.nil _ _⟩
end Go.Proofs.YthlmcfbadhidbaaGreat
/- The program's Normal by the plain law; Degrees. -/
namespace Go.Proofs.YthlmcfbadhidbaaGreat
open Go Go.RowKit Go.Shelf Go.Lib Go.Sort
theorem NormalG (N : Int) (pe : Option Addr) (ne ce : Nat) (pw : Option Addr) (nw cw : Nat) (E : List (Int × Int)) (hs : List Hd) (W : List (List ByteArray)) (w : World) (hE : Rd w 2 pe ne (encE E)) (hW : RdW w pw nw hs W) (hz : SzW W) :
    Calls Tryz.prog 96 #[.agg #[.int .i64 N, .slice pe ne ce, .slice pw nw cw]] w fun e w' => ∃ v, e = .returned (.tuple #[v, .int .i64 (normC N E W)]) ∧ GraphO w' w.heap.size v (normN N E W) (normE N E W) (normW N E W) ∧ Ext w w' := by
  refine (NormalG0 N pe ne ce pw nw cw E hs W w hE hW hz).mono ?_
  rintro e w' ⟨v, h1, h2, h3⟩
  refine ⟨v, h1, ?_, h3⟩
  unfold normN normE normW
  rw [← once_putAll stoE, show (putAll sLess : List ByteArray → _) = fun l => dedup (sortBy sLess l) from funext fun l => (once_putAll stoS l).symm]
  exact h2
theorem own_far {w : World} {base : Nat} {e : TypeId} {size n c : Nat} {q : Option Addr} {xs : List Value} (h : w.ownsRow base e size (.slice q n c) n xs) {b : Nat} (hb : b < base) (i : Nat) (u : Value) : (w.setCell ⟨b, i, none⟩ u).ownsRow base e size (.slice q n c) n xs := by
  refine ⟨h.1, ?_⟩
  rcases h.2 with h2 | ⟨g, cap, cur, h1, hg, hh, r⟩
  · exact .inl h2
  · exact .inr ⟨g, cap, cur, h1, hg, (Below.heap_setCell w ⟨b, i, none⟩ u g (by show g ≠ b; omega)).trans hh, r⟩
theorem GraphO.set {w : World} {base : Nat} {v : Value} {N : Int} {E : List (Int × Int)} {W : List (List ByteArray)} (h : GraphO w base v N E W) {b : Nat} (hb : b < base) (i : Nat) (u : Value) : GraphO (w.setCell ⟨b, i, none⟩ u) base v N E W := by
  obtain ⟨pe, ce, pw, cw, hs, h1, h2, h3⟩ := h
  exact ⟨pe, ce, pw, cw, hs, h1, own_far h2 hb i u, h3.hn, own_far h3.row hb i u, fun j hj => own_far (h3.each j hj) hb i u⟩
theorem GraphO.mono {w : World} {base b : Nat} {v : Value} {N : Int} {E : List (Int × Int)} {W : List (List ByteArray)} (h : GraphO w base v N E W) (hb : b ≤ base) : GraphO w b v N E W := by
  obtain ⟨pe, ce, pw, cw, hs, h1, h2, h3⟩ := h
  exact ⟨pe, ce, pw, cw, hs, h1, own_base h2 hb, h3.hn, own_base h3.row hb, fun j hj => own_base (h3.each j hj) hb⟩
/-- the counts of an edge list's places -/
def outN (E : List (Int × Int)) (v : Int) : Nat := E.countP fun x => x.1 == v
def inN (E : List (Int × Int)) (v : Int) : Nat := E.countP fun x => x.2 == v
def placeB (N : Int) (E : List (Int × Int)) (W : List (List ByteArray)) (v : Int) : Bool := checkB N E W && decide (0 ≤ v ∧ v < N)
def degO (N : Int) (E : List (Int × Int)) (W : List (List ByteArray)) (v : Int) : Int := if placeB N E W v then outN (putAll lessE E) v else 0
def degI (N : Int) (E : List (Int × Int)) (W : List (List ByteArray)) (v : Int) : Int := if placeB N E W v then inN (putAll lessE E) v else 0
theorem outN_step {E : List (Int × Int)} {v : Int} {k : Nat} (hk : k < E.length) : outN (E.take (k + 1)) v = outN (E.take k) v + if (nth E k).1 == v then 1 else 0 := by
  unfold outN; rw [take_succ_nth E k hk, List.countP_append, List.countP_singleton]
theorem inN_step {E : List (Int × Int)} {v : Int} {k : Nat} (hk : k < E.length) : inN (E.take (k + 1)) v = inN (E.take k) v + if (nth E k).2 == v then 1 else 0 := by
  unfold inN; rw [take_succ_nth E k hk, List.countP_append, List.countP_singleton]
theorem outN_le (E : List (Int × Int)) (v : Int) : outN E v ≤ E.length := List.countP_le_length
theorem inN_le (E : List (Int × Int)) (v : Int) : inN E v ≤ E.length := List.countP_le_length
end Go.Proofs.YthlmcfbadhidbaaGreat
/- The program's Turned. -/
namespace Go.Proofs.YthlmcfbadhidbaaGreat
open Go Go.RowKit Go.Shelf Go.Lib Go.Sort
/-- the first k turned, the others as they were -/
def turnK (E : List (Int × Int)) (k : Nat) : List (Int × Int) := (E.take k).map swapE ++ E.drop k
theorem turnK_len (E : List (Int × Int)) (k : Nat) : (turnK E k).length = E.length := by simp [turnK]; omega
theorem turnK_nth (E : List (Int × Int)) (k : Nat) (h : k < E.length) : nth (turnK E k) k = nth E k := by
  have hl : k < (turnK E k).length := by rw [turnK_len]; exact h
  unfold nth turnK
  rw [List.getD_eq_getElem?_getD, List.getD_eq_getElem?_getD, List.getElem?_append_right (by simp; omega)]
  simp [Nat.min_eq_left (Nat.le_of_lt h)]
theorem turnK_step (E : List (Int × Int)) (k : Nat) (h : k < E.length) : ((encE (turnK E k)).set (k * 2) (.int .i64 (nth E k).2)).set (k * 2 + 1) (.int .i64 (nth E k).1) = encE (turnK E (k + 1)) := by
  have h1 : encE (turnK E k) = encE ((E.take k).map swapE) ++ ([.int .i64 (nth E k).1, .int .i64 (nth E k).2] ++ encE (E.drop (k + 1))) := by
    unfold turnK
    rw [encE_append, drop_nth E k h]
    rfl
  have h2 : encE (turnK E (k + 1)) = encE ((E.take k).map swapE) ++ ([.int .i64 (nth E k).2, .int .i64 (nth E k).1] ++ encE (E.drop (k + 1))) := by
    unfold turnK
    rw [map_take_succ swapE E k h, encE_append, encE_append, List.append_assoc]
    rfl
  have hl : (encE ((E.take k).map swapE)).length = k * 2 := by rw [encE_len, List.length_map, List.length_take]; omega
  rw [h1, h2, List.set_append_right _ _ (by omega), List.set_append_right _ _ (by omega), hl]
  simp [show k * 2 + 1 - k * 2 = 1 from by omega]
set_option maxRecDepth 100000 in
set_option maxHeartbeats 2000000 in
theorem TurnedG (N : Int) (pe : Option Addr) (ne ce : Nat) (pw : Option Addr) (nw cw : Nat) (E : List (Int × Int)) (hs : List Hd) (W : List (List ByteArray)) (w : World) (hE : Rd w 2 pe ne (encE E)) (hW : RdW w pw nw hs W) (hz : SzW W) (hn : ne ≤ 100000) :
    Calls Tryz.prog 72 #[.agg #[.int .i64 N, .slice pe ne ce, .slice pw nw cw]] w fun e w' => ∃ v, e = .returned (.tuple #[v, .int .i64 (normC N (E.map swapE) W)]) ∧ GraphO w' w.heap.size v (normN N (E.map swapE) W) (normE N (E.map swapE) W) (normW N (E.map swapE) W) ∧ Ext w w' := by
  have l1 := hE.nE
  have HClone := Lib.hid (fun W1 (h : Ext w W1) => CloneE pe ne ce E W1 (hE.ext h) hn)
  have HW := Lib.hid hW; clear hW
  have HZ := Lib.hid hz; clear hz
  have L1 := Lib.hid l1; clear l1
  clear hE
  have S0 := Lib.hid (((Sep.start w).al #[.int .i64 N, .slice pe ne ce, .slice pw nw cw] 78 w.heap.size rfl).al #[.int .i64 0, .slice none 0 0, .slice none 0 0] 78 (w.heap.size + 1) (by simp))
  go_enter Tryz.func72, Tryz.ntmps72
  go_wp2_with (go_at_call 95; go_must (refine (HClone.out _ S0.out.ext).mono ?_; rintro e w1 ⟨q, c, rfl, ho, hb⟩; have S1 := S0.out.fresh hb ho (Nat.le_refl _); have c0 := (S1.blk 2 rfl).cell 0; have c1 := (S1.blk 2 rfl).cell 1; have c2 := (S1.blk 2 rfl).cell 2; have f1 := (S1.blk 2 rfl).frozen 1; have S2 := Lib.hid S1; clear S1 ho hb))
  go_loopw [4, 5, 13] (fun _ _ i wr => ∃ k : Nat, k ≤ ne ∧ i = .int .i64 k ∧ Sep w wr [.own 74 2 q ne c (encE (turnK E k)), .blk (w.heap.size + 1) 78 #[.int .i64 0, .slice none 0 0, .slice none 0 0], .blk w.heap.size 78 #[.int .i64 N, .slice q ne c, .slice pw nw cw]]) (fun _ _ i _ => ne - (intOf i).toNat)
  case atStart => exact ⟨0, Nat.zero_le _, rfl, by have := S2.out.set 2 rfl 1 (.slice q ne c); rwa [show turnK E 0 = E from by simp [turnK]]⟩
  case round =>
    clear S2 c0 c1 c2 f1
    obtain ⟨k, hk, rfl, S⟩ := hrel
    have cz := (S.blk 2 rfl).lt; have c0 := (S.blk 2 rfl).cell 0; have c1 := (S.blk 2 rfl).cell 1; have c2 := (S.blk 2 rfl).cell 2
    by_cases hlt : k < ne
    · have p1 := (S.rd 0 rfl (by omega)).ptr
      have e1 := (S.rd 0 rfl (by omega)).cE hlt
      have e2 := (S.rd 0 rfl (by omega)).cE2 hlt
      rw [turnK_nth E k (by rw [← L1.out]; exact hlt)] at e1 e2
      have k1 := own_frozen (S.own 0 rfl) (by omega) (k * 2)
      have k2 := own_frozen (S.own 0 rfl) (by omega) (k * 2 + 1)
      have z1 := (S.blt 0 rfl (by omega)).2
      have z2 : (adr q (k * 2)).block < wr.heap.size := z1
      have k3 : wr.frozen? ⟨(adr q (k * 2)).block, (adr q (k * 2)).off + 1, none⟩ = false := k2
      have e3 : wr.cell? ⟨(adr q (k * 2)).block, (adr q (k * 2)).off + 1, none⟩ = some (.int .i64 (nth E k).2) := e2
      have ya : _ ≠ _ := adr_other q (show (k * 2) ≠ (k * 2) + 1 by omega)
      have yb : _ ≠ _ := adr_other q (show (k * 2) + 1 ≠ (k * 2) by omega)
      have yc : adr q ((k * 2)) ≠ ⟨(adr q ((k * 2))).block, (adr q ((k * 2))).off + 1, none⟩ := ya
      have d1 : (0:Int) ≤ k := by omega
      have d2 : (k:Int) < ne := by omega
      have hst := Lib.hid (turnK_step E k (by rw [← L1.out]; exact hlt))
      have SH := Lib.hid S; clear S
      go_wp2
      go_roundw
      case rel => exact ⟨k + 1, by omega, by go_num, by rw [← hst.out]; exact (SH.out.junk _).setRow2 0 rfl (k * 2) (by omega) _ _⟩
      case measure => simp [intOf]; omega
    · obtain rfl : k = ne := by omega
      have HT : Hid (turnK E k = E.map swapE) := by unfold Hid turnK; rw [List.take_of_length_le (by rw [← L1.out]; omega), List.drop_of_length_le (by rw [← L1.out]; omega), List.append_nil]
      have RQ := Lib.hid (S.rd 0 rfl (by omega))
      rw [HT.out] at RQ
      have SH := Lib.hid S; clear S
      go_wp2_with (go_at_call 96; go_must (refine (NormalG N q k c pw nw cw (E.map swapE) hs W _ RQ.out (HW.out.ext SH.out.ext) HZ.out).mono ?_; rintro e w2 ⟨v, rfl, hG, hb2⟩; have S2 := SH.out.call hb2; have z2 : w.heap.size + 1 < wr.heap.size := (SH.out.blk 1 rfl).lt; have HG := Lib.hid hG; obtain ⟨pe', ce', pw', cw', hs', rfl, _, _⟩ := hG; have x0 := (S2.blk 1 rfl).cell 0; have x1 := (S2.blk 1 rfl).cell 1; have x2 := (S2.blk 1 rfl).cell 2; have f0 := (S2.blk 1 rfl).frozen 0; have f1 := (S2.blk 1 rfl).frozen 1; have f2 := (S2.blk 1 rfl).frozen 2; have S3 := Lib.hid S2; clear S2))
      have S4 := ((S3.out.set 1 rfl 0 (.int .i64 (normN N (E.map swapE) W))).set 1 rfl 1 (.slice pe' (normE N (E.map swapE) W).length ce')).set 1 rfl 2 (.slice pw' (normW N (E.map swapE) W).length cw')
      have b0 := (S4.blk 1 rfl).cell 0
      have b1 := (S4.blk 1 rfl).cell 1
      have b2 := (S4.blk 1 rfl).cell 2
      refine bodyPost_ret (v := .tuple #[.agg #[.int .i64 (normN N (E.map swapE) W), .slice pe' (normE N (E.map swapE) W).length ce', .slice pw' (normW N (E.map swapE) W).length cw'], .int .i64 (normC N (E.map swapE) W)]) (by simp [results, Tryz.results72, go_sem, b0, b1, b2, Tryz.sizeOf78, Tryz.isAgg78]) rfl ⟨_, rfl, ?_, S4.ext⟩
      have hg1 := HG.out.set z2 0 (.int .i64 (normN N (E.map swapE) W))
      exact ((hg1.set z2 1 (.slice pe' (normE N (E.map swapE) W).length ce')).set z2 2 (.slice pw' (normW N (E.map swapE) W).length cw')).mono (by omega)
end Go.Proofs.YthlmcfbadhidbaaGreat
/- Plain facts of chapter 2 that many laws use: what is not looked at bounds what is; rows that are read. -/
namespace Go.Proofs.YthlmcfbadhidbaaGreat
open Go Go.RowKit
theorem szW_of_big {E : List (Int × Int)} {W : List (List ByteArray)} (h : bigB E W = false) : SzW W := by
  unfold bigB at h
  simp only [Bool.or_eq_false_iff, Bool.and_eq_false_iff] at h
  obtain ⟨⟨⟨h1, h2⟩, _⟩, _⟩ := h
  have hw : W.length ≤ 250 := by simpa using h2
  have hb : W.any badRow = false := by
    rcases h1 with h1 | h1
    · simp at h1; omega
    · exact h1
  intro l hl s hs
  have h3 := List.any_eq_false.1 hb l hl
  unfold badRow at h3
  simp only [Bool.or_eq_true, not_or, Bool.not_eq_true] at h3
  have h4 := List.any_eq_false.1 h3.2 s hs
  unfold longB at h4
  simp at h4
  omega
theorem lens_of_big {E : List (Int × Int)} {W : List (List ByteArray)} (h : bigB E W = false) : E.length ≤ 2100 ∧ W.length ≤ 250 ∧ ∀ l ∈ W, l.length ≤ 20 := by
  unfold bigB at h
  simp only [Bool.or_eq_false_iff, Bool.and_eq_false_iff] at h
  obtain ⟨⟨⟨h1, h2⟩, _⟩, h4⟩ := h
  have hw : W.length ≤ 250 := by simpa using h2
  refine ⟨by simpa using h4, hw, fun l hl => ?_⟩
  have hb : W.any badRow = false := by
    rcases h1 with h1 | h1
    · simp at h1; omega
    · exact h1
  have h3 := List.any_eq_false.1 hb l hl
  unfold badRow at h3
  simp at h3
  omega
theorem norm_lens (N : Int) (E : List (Int × Int)) (W : List (List ByteArray)) (h1 : E.length ≤ 2100) (h2 : W.length ≤ 250) (h3 : ∀ l ∈ W, l.length ≤ 20) : (normE N E W).length ≤ 2100 ∧ (normW N E W).length ≤ 250 ∧ ∀ l ∈ normW N E W, l.length ≤ 20 := by
  unfold normE normW
  by_cases hc : checkB N E W = true
  · simp only [hc, if_true]
    refine ⟨Nat.le_trans (putAll_len _ _) h1, by rw [List.length_map]; exact h2, fun l hl => ?_⟩
    obtain ⟨l', hl', rfl⟩ := List.mem_map.1 hl
    exact Nat.le_trans (putAll_len _ _) (h3 l' hl')
  · have : checkB N E W = false := by simpa using hc
    simp only [this, Bool.false_eq_true, if_false]
    exact ⟨by simp, by simp, fun l hl => by cases hl⟩
theorem Blk.rd {W : World} {g : Nat} {t : TypeId} {cs : Array Value} (h : Blk W g t cs) {n size : Nat} {xs : List Value} (hx : cs.toList = xs) (hn : xs.length = n * size) (hs : n ≤ 9223372036854775807) : Rd W size (some ⟨g, 0, none⟩) n xs := by
  subst hx
  refine ⟨hn, .inr ⟨_, _, rfl⟩, hs, fun j hj => ?_⟩
  rw [adr_some, Nat.zero_add, h.cell j]
  rw [List.getD_eq_getElem?_getD, Array.getElem?_toList, Array.getElem?_eq_getElem (by simp at hn; omega)]
  rfl
theorem GraphO.rd {w : World} {base : Nat} {v : Value} {N : Int} {E : List (Int × Int)} {W : List (List ByteArray)} (h : GraphO w base v N E W) (h1 : E.length ≤ 9223372036854775807) (h2 : W.length ≤ 9223372036854775807) (h3 : ∀ l ∈ W, l.length ≤ 9223372036854775807) : GraphR w v N E W := by
  obtain ⟨pe, ce, pw, cw, hs, rfl, h5, h6⟩ := h
  exact ⟨pe, _, ce, pw, _, cw, hs, rfl, Rd.of_own h5 h1, own_cap h5, h6.rd h2 h3, own_cap h6.row⟩
theorem alloc3B (w : World) (c1 c2 c3 : Array Value) (t1 t2 t3 : TypeId) : Blk (((w.alloc (.cells c1 t1)).alloc (.cells c2 t2)).alloc (.cells c3 t3)) w.heap.size t1 c1 ∧ Blk (((w.alloc (.cells c1 t1)).alloc (.cells c2 t2)).alloc (.cells c3 t3)) (w.heap.size + 1) t2 c2 ∧
    Blk (((w.alloc (.cells c1 t1)).alloc (.cells c2 t2)).alloc (.cells c3 t3)) (w.heap.size + 1 + 1) t3 c3 ∧ Ext w (((w.alloc (.cells c1 t1)).alloc (.cells c2 t2)).alloc (.cells c3 t3)) := alloc3 _ _ _ _
theorem alloc2B (w : World) (c1 c2 : Array Value) (t1 t2 : TypeId) : Blk ((w.alloc (.cells c1 t1)).alloc (.cells c2 t2)) w.heap.size t1 c1 ∧ Blk ((w.alloc (.cells c1 t1)).alloc (.cells c2 t2)) (w.heap.size + 1) t2 c2 ∧ Ext w ((w.alloc (.cells c1 t1)).alloc (.cells c2 t2)) := alloc2 _ _ _
end Go.Proofs.YthlmcfbadhidbaaGreat
/- The program's rise and Is. -/
namespace Go.Proofs.YthlmcfbadhidbaaGreat
open Go Go.RowKit Go.Shelf Go.Lib Go.Sort
theorem Ext.growN {w w' : World} (h : Ext w w') (os : Array Obj) : Ext w (grow w' os) :=
  ⟨h.os, h.tape, h.output, by rw [size_grow]; exact Nat.le_trans h.size (Nat.le_add_right _ _), fun k hk => (heap_grow_old w' os (Nat.lt_of_lt_of_le hk h.size)).trans (h.block k hk)⟩
theorem EdgesExt (x y : Int × Int) (W : World) : Calls Tryz.prog 104 #[.agg #[.int .i64 x.1, .int .i64 x.2], .agg #[.int .i64 y.1, .int .i64 y.2]] W fun e w' => e = .returned (.int .i64 (cmpE x y)) ∧ Ext W w' :=
  (EdgesLit x y W).mono fun e w' ⟨h, q, os, hw⟩ => ⟨h, by subst hw; exact Ext.growN (Ext.drewN (Below.refl _ _) q) os⟩
theorem cmpE_neg (x y : Int × Int) : cmpE x y < 0 ↔ lessE x y = true := by
  have := ltOf_cmpE x y
  unfold ltOf at this
  rw [← this]; simp
theorem cmpS_neg (x y : ByteArray) : cmpS x y < 0 ↔ sLess x y = true := by
  have := ltOf_cmpS x y
  unfold ltOf at this
  rw [← this]; simp
set_option maxRecDepth 100000 in
set_option maxHeartbeats 1000000 in
theorem RiseE (p : Option Addr) (n c : Nat) (l : List (Int × Int)) (w : World) (hl : Rd w 2 p n (encE l)) :
    Calls Tryz.prog 92 #[.slice p n c, .agg #[.func (.func 104) #[] #[]]] w fun e w' => e = .returned (.bool (riseB lessE l)) ∧ Ext w w' := by
  have p1 := hl.ptr
  have n1 := hl.small
  have l1 := hl.nE
  have HL := Lib.hid hl; clear hl
  have L1 := Lib.hid l1; clear l1
  go_enter Tryz.func92, Tryz.ntmps92
  go_wp2
  go_loopw [5] (fun i wr => ∃ k : Nat, 1 ≤ k ∧ (k ≤ n ∨ k = 1) ∧ i = .int .i64 k ∧ (List.range (k - 1)).all (riseAt lessE l) = true ∧ Ext w wr ∧ wr.cell? ⟨w.heap.size, 0, none⟩ = some (.func (.func 104) #[] #[])) (fun i _ => n + 1 - (intOf i).toNat)
  case atStart => exact ⟨1, Nat.le_refl _, .inr rfl, rfl, rfl, (Below.refl _ _).alloc (Nat.le_refl _) _, cellnew0 _ _ _ _⟩
  case round =>
    obtain ⟨k, hk1, hk, rfl, ha, hb, b0⟩ := hrel
    have HA := Lib.hid ha; clear ha
    have HB := Lib.hid hb; clear hb
    by_cases hlt : k < n
    · have g1 := HB.out.cell (HL.out.cE hlt)
      have g2 := HB.out.cell (HL.out.cE2 hlt)
      have g3 := HB.out.cell (HL.out.cE (k := k - 1) (by omega))
      have g4 := HB.out.cell (HL.out.cE2 (k := k - 1) (by omega))
      have e1 : ∀ x : ExtOf wr, x.val.cell? (adr p (k * 2)) = _ := fun x => x.ext.cell g1
      have e2 : ∀ x : ExtOf wr, x.val.cell? (adr p (k * 2 + 1)) = _ := fun x => x.ext.cell g2
      have e3 : ∀ x : ExtOf wr, x.val.cell? (adr p ((k - 1) * 2)) = _ := fun x => x.ext.cell g3
      have e4 : ∀ x : ExtOf wr, x.val.cell? (adr p ((k - 1) * 2 + 1)) = _ := fun x => x.ext.cell g4
      have e5 : ∀ x : ExtOf wr, x.val.cell? ⟨w.heap.size, 0, none⟩ = _ := fun x => x.ext.cell b0
      have d1 : (0:Int) ≤ k := by omega
      have d2 : (k:Int) < n := by omega
      have d3 : (0:Int) ≤ (k:Int) - 1 := by omega
      have d4 : (1:Int) ≤ (k:Int) := by omega
      have d5 : (k:Int) - 1 < n := by omega
      have d6 : ((k:Int) - 1).toNat = k - 1 := by omega
      have hkk : k - 1 + 1 = k := by omega
      have HKK := Lib.hid hkk; clear hkk
      have HC := fun W' => EdgesExt (nth l (k - 1)) (nth l k) W'
      have hcc := cmpE_neg (nth l (k - 1)) (nth l k)
      generalize cmpE (nth l (k - 1)) (nth l k) = cc at HC hcc
      have HC1 := Lib.hid HC; clear HC
      by_cases hless : cc < 0
      · have hle : decide (0 ≤ cc) = false := by simp; omega
        have hls := Lib.hid (hcc.1 hless)
        clear hcc
        go_wp2
        refine wp_region_ext (by kernel_rfl) (by kernel_rfl) ?_
        repeat (go_big_quiet_step ((go_at_call 104; exact Calls.ext_of (HC1.out _))))
        refine wpQuiet_nil ?_
        rintro w1 ⟨⟨_, hb1⟩, rfl⟩
        go_wp2
        go_roundw
        case rel => exact ⟨k + 1, by omega, .inl (by omega), by go_num, by rw [show k + 1 - 1 = k - 1 + 1 from by omega]; exact range_all_succ _ _ HA.out (by unfold riseAt; rw [HKK.out]; exact hls.out), Ext.trans HB.out hb1, hb1.cell b0⟩
        case measure => simp [intOf]; omega
      · have hle : decide (0 ≤ cc) = true := by simp; omega
        have hls : lessE (nth l (k - 1)) (nth l k) = false := by simpa using (fun h => hless (hcc.2 h))
        have HF := Lib.hid (riseB_no (lt := lessE) (l := l) (k := k - 1) (by rw [HKK.out, ← L1.out]; exact hlt) (by rw [HKK.out]; exact hls))
        clear hcc hls
        go_wp2
        refine wp_region_ext (by kernel_rfl) (by kernel_rfl) ?_
        repeat (go_big_quiet_step ((go_at_call 104; exact Calls.ext_of (HC1.out _))))
        refine wpQuiet_nil ?_
        rintro w1 ⟨⟨_, hb1⟩, rfl⟩
        go_wp2
        go_ret
        exact ⟨ret_bool HF.out.symm, Ext.trans HB.out hb1⟩
    · have HEE := Lib.hid (riseB_end (by rw [← L1.out]; exact hlt) HA.out)
      go_wp2
      go_ret
      exact ⟨ret_bool HEE.out.symm, HB.out⟩
set_option maxRecDepth 100000 in
set_option maxHeartbeats 1000000 in
theorem RiseS (p : Option Addr) (n c : Nat) (l : List ByteArray) (w : World) (hl : Rd w 1 p n (encS l)) :
    Calls Tryz.prog 89 #[.slice p n c, .agg #[.func (.func 99) #[] #[]]] w fun e w' => e = .returned (.bool (riseB sLess l)) ∧ Ext w w' := by
  have p1 := hl.ptr
  have n1 := hl.small
  have l1 := hl.nS
  have HL := Lib.hid hl; clear hl
  have L1 := Lib.hid l1; clear l1
  go_enter Tryz.func89, Tryz.ntmps89
  go_wp2
  go_loopw [5] (fun i wr => ∃ k : Nat, 1 ≤ k ∧ (k ≤ n ∨ k = 1) ∧ i = .int .i64 k ∧ (List.range (k - 1)).all (riseAt sLess l) = true ∧ Ext w wr ∧ wr.cell? ⟨w.heap.size, 0, none⟩ = some (.func (.func 99) #[] #[])) (fun i _ => n + 1 - (intOf i).toNat)
  case atStart => exact ⟨1, Nat.le_refl _, .inr rfl, rfl, rfl, (Below.refl _ _).alloc (Nat.le_refl _) _, cellnew0 _ _ _ _⟩
  case round =>
    obtain ⟨k, hk1, hk, rfl, ha, hb, b0⟩ := hrel
    have HA := Lib.hid ha; clear ha
    have HB := Lib.hid hb; clear hb
    by_cases hlt : k < n
    · have g1 := HB.out.cell (HL.out.cS hlt)
      have g3 := HB.out.cell (HL.out.cS (k := k - 1) (by omega))
      have e1 : ∀ x : ExtOf wr, x.val.cell? (adr p k) = _ := fun x => x.ext.cell g1
      have e3 : ∀ x : ExtOf wr, x.val.cell? (adr p (k - 1)) = _ := fun x => x.ext.cell g3
      have e5 : ∀ x : ExtOf wr, x.val.cell? ⟨w.heap.size, 0, none⟩ = _ := fun x => x.ext.cell b0
      have d1 : (0:Int) ≤ k := by omega
      have d2 : (k:Int) < n := by omega
      have d3 : (0:Int) ≤ (k:Int) - 1 := by omega
      have d4 : (1:Int) ≤ (k:Int) := by omega
      have d5 : (k:Int) - 1 < n := by omega
      have d6 : ((k:Int) - 1).toNat = k - 1 := by omega
      have hkk : k - 1 + 1 = k := by omega
      have HKK := Lib.hid hkk; clear hkk
      have HC : ∀ W', Calls Tryz.prog 99 #[.string (nth l (k - 1)), .string (nth l k)] W' fun e w' => e = .returned (.int .i64 (cmpS (nth l (k - 1)) (nth l k))) ∧ Ext W' w' := fun W' => (CompareS (nth l (k - 1)) (nth l k) W').mono fun e w' ⟨h, hw⟩ => ⟨h, by subst hw; exact Below.refl _ _⟩
      have hcc := cmpS_neg (nth l (k - 1)) (nth l k)
      generalize cmpS (nth l (k - 1)) (nth l k) = cc at HC hcc
      have HC1 := Lib.hid HC; clear HC
      by_cases hless : cc < 0
      · have hle : decide (0 ≤ cc) = false := by simp; omega
        have hls := Lib.hid (hcc.1 hless)
        clear hcc
        go_wp2
        refine wp_region_ext (by kernel_rfl) (by kernel_rfl) ?_
        repeat (go_big_quiet_step ((go_at_call 99; exact Calls.ext_of (HC1.out _))))
        refine wpQuiet_nil ?_
        rintro w1 ⟨⟨_, hb1⟩, rfl⟩
        go_wp2
        go_roundw
        case rel => exact ⟨k + 1, by omega, .inl (by omega), by go_num, by rw [show k + 1 - 1 = k - 1 + 1 from by omega]; exact range_all_succ _ _ HA.out (by unfold riseAt; rw [HKK.out]; exact hls.out), Ext.trans HB.out hb1, hb1.cell b0⟩
        case measure => simp [intOf]; omega
      · have hle : decide (0 ≤ cc) = true := by simp; omega
        have hls : sLess (nth l (k - 1)) (nth l k) = false := by simpa using (fun h => hless (hcc.2 h))
        have HF := Lib.hid (riseB_no (lt := sLess) (l := l) (k := k - 1) (by rw [HKK.out, ← L1.out]; exact hlt) (by rw [HKK.out]; exact hls))
        clear hcc hls
        go_wp2
        refine wp_region_ext (by kernel_rfl) (by kernel_rfl) ?_
        repeat (go_big_quiet_step ((go_at_call 99; exact Calls.ext_of (HC1.out _))))
        refine wpQuiet_nil ?_
        rintro w1 ⟨⟨_, hb1⟩, rfl⟩
        go_wp2
        go_ret
        exact ⟨ret_bool HF.out.symm, Ext.trans HB.out hb1⟩
    · have HEE := Lib.hid (riseB_end (by rw [← L1.out]; exact hlt) HA.out)
      go_wp2
      go_ret
      exact ⟨ret_bool HEE.out.symm, HB.out⟩
theorem IsLit (p : Option Addr) (n c : Nat) (l : List ByteArray) (w : World) (hl : Rd w 1 p n (encS l)) :
    Calls Tryz.prog 88 #[.slice p n c] w fun e w' => e = .returned (.bool (!riseB sLess l)) ∧ Ext w w' := by
  have HL := Lib.hid hl; clear hl
  go_enter Tryz.func88, Tryz.ntmps88
  go_wp2_with (first
    | (go_at_call 90; go_must ((refine (WordsG _).mono ?_; rintro e w1 ⟨rfl, hb1⟩; have B1 := Lib.hid hb1; clear hb1)))
    | (go_at_call 89; have _t := B1; go_must ((refine (RiseS _ _ _ _ _ (HL.out.ext B1.out)).mono ?_; rintro e w2 ⟨rfl, hb2⟩; have B2 := Lib.hid (Ext.trans B1.out hb2); clear hb2))))
  go_ret
  exact ⟨rfl, B2.out⟩
set_option maxHeartbeats 400000 in
/-- the first row that does not rise, or -1 -/
theorem IndexRise (p : Option Addr) (n c : Nat) (hs : List Hd) (W : List (List ByteArray)) (w : World) (hl : RdW w p n hs W) :
    Calls Tryz.prog 107 #[.slice p n c, .func (.func 88) #[] #[]] w fun e w' => ∃ i : Int, e = .returned (.int .i64 i) ∧ decide (0 ≤ i) = W.any (fun l => !riseB sLess l) ∧ Ext w w' := by
  have p1 := hl.row.ptr
  have n1 := hl.row.small
  have l1 := hl.nW
  have HL := Lib.hid hl; clear hl
  have L1 := Lib.hid l1; clear l1
  go_enter Tryz.func107, Tryz.ntmps107
  go_wp2
  go_loopw [5, 8] (fun _ i wr => ∃ k : Nat, k ≤ n ∧ i = .int .i64 k ∧ (W.take k).any (fun l => !riseB sLess l) = false ∧ Ext w wr) (fun _ i _ => n - (intOf i).toNat)
  case atStart => exact ⟨0, Nat.zero_le _, rfl, rfl, Below.refl _ _⟩
  case round =>
    obtain ⟨k, hk, rfl, ha, hb⟩ := hrel
    have HA := Lib.hid ha; clear ha
    have HB := Lib.hid hb; clear hb
    by_cases hlt : k < n
    · have g1 := HB.out.cell (HL.out.row.cH hlt)
      have Q1 := Lib.hid ((HL.out.each k hlt).ext HB.out)
      by_cases hw : (!riseB sLess (nth W k)) = true
      · have HF := Lib.hid (any_true_at (fun l => !riseB sLess l) W k (by rw [← L1.out]; exact hlt) hw)
        go_wp2_with (go_at_call 88; refine (IsLit _ _ _ _ _ Q1.out).mono ?_; rintro e w' ⟨rfl, hb1⟩; have H1 := Lib.hid (Ext.trans HB.out hb1); clear hb1)
        go_ret
        exact ⟨_, rfl, by rw [HF.out]; simp, H1.out⟩
      · have hw' : (!riseB sLess (nth W k)) = false := by simpa using hw
        have HW' := Lib.hid hw'
        clear hw
        go_wp2_with (go_at_call 88; refine (IsLit _ _ _ _ _ Q1.out).mono ?_; rintro e w' ⟨rfl, hb1⟩; have H1 := Lib.hid (Ext.trans HB.out hb1); clear hb1)
        go_roundw
        case rel => exact ⟨k + 1, by omega, by go_num, any_step _ _ _ (by rw [← L1.out]; exact hlt) HA.out HW'.out, H1.out⟩
        case measure => simp [intOf]; omega
    · have HF := Lib.hid (any_end _ _ _ (by rw [← L1.out]; exact hlt) HA.out)
      go_wp2
      go_ret
      exact ⟨_, rfl, by rw [HF.out]; rfl, HB.out⟩
theorem ContainsRise (p : Option Addr) (n c : Nat) (hs : List Hd) (W : List (List ByteArray)) (w : World) (hl : RdW w p n hs W) :
    Calls Tryz.prog 94 #[.slice p n c, .func (.func 88) #[] #[]] w fun e w' => e = .returned (.bool (W.any (fun l => !riseB sLess l))) ∧ Ext w w' := by
  have HC := Lib.hid (IndexRise p n c hs W w hl)
  clear hl
  go_enter Tryz.func94, Tryz.ntmps94
  go_wp2_with (go_at_call 107; refine HC.out.mono ?_; rintro e w' ⟨i, rfl, hi, hb⟩; have HI := Lib.hid hi; have HB := Lib.hid hb; clear hi hb)
  go_ret
  exact ⟨ret_bool HI.out, HB.out⟩
set_option maxRecDepth 100000 in
set_option maxHeartbeats 2000000 in
theorem IsG (N : Int) (pe : Option Addr) (ne ce : Nat) (pw : Option Addr) (nw cw : Nat) (E : List (Int × Int)) (hs : List Hd) (W : List (List ByteArray)) (w : World) (hE : Rd w 2 pe ne (encE E)) (hW : RdW w pw nw hs W) (hz : SzW W) :
    Calls Tryz.prog 71 #[.agg #[.int .i64 N, .slice pe ne ce, .slice pw nw cw]] w fun e w' => e = .returned (.bool (isB N E W)) ∧ Ext w w' := by
  have hu : isB N E W = (checkB N E W && riseB lessE E && !W.any (fun l => !riseB sLess l)) := by unfold isB; rw [← List.all_eq_not_any_not]
  rw [hu]
  have HCk := Lib.hid (fun W1 (h : Ext w W1) => CheckG N pe ne ce pw nw cw E hs W W1 (hE.ext h) (hW.ext h) hz)
  have HRi := Lib.hid (fun W1 (h : Ext w W1) => RiseE pe ne ce E W1 (hE.ext h))
  have HCo := Lib.hid (fun W1 (h : Ext w W1) => ContainsRise pw nw cw hs W W1 (hW.ext h))
  clear hE hW hz hu
  generalize checkB N E W = b1 at *
  generalize riseB lessE E = b2 at *
  generalize W.any (fun l => !riseB sLess l) = b3 at *
  have hx : Ext w (w.alloc (.cells #[.int .i64 N, .slice pe ne ce, .slice pw nw cw] 78)) := (Below.refl _ _).alloc (Nat.le_refl _) _
  have c0 : (w.alloc (.cells #[.int .i64 N, .slice pe ne ce, .slice pw nw cw] 78)).cell? ⟨w.heap.size, 0, none⟩ = some (.int .i64 N) := by simp
  have c1 : (w.alloc (.cells #[.int .i64 N, .slice pe ne ce, .slice pw nw cw] 78)).cell? ⟨w.heap.size, 1, none⟩ = some (.slice pe ne ce) := by simp
  have c2 : (w.alloc (.cells #[.int .i64 N, .slice pe ne ce, .slice pw nw cw] 78)).cell? ⟨w.heap.size, 2, none⟩ = some (.slice pw nw cw) := by simp
  cases b1 <;> cases b2 <;> cases b3 <;>
  (go_enter Tryz.func71, Tryz.ntmps71
   go_wp2
   obtain ⟨wo, hwo⟩ : ∃ wo, wo = w.alloc (.cells #[.int .i64 N, .slice pe ne ce, .slice pw nw cw] 78) := ⟨_, rfl⟩
   rw [← hwo] at hx c0 c1 c2 ⊢
   have HX := Lib.hid hx
   have e0 : ∀ x : ExtOf wo, x.val.cell? ⟨w.heap.size, 0, none⟩ = _ := fun x => x.ext.cell c0
   have e1 : ∀ x : ExtOf wo, x.val.cell? ⟨w.heap.size, 1, none⟩ = _ := fun x => x.ext.cell c1
   have e2 : ∀ x : ExtOf wo, x.val.cell? ⟨w.heap.size, 2, none⟩ = _ := fun x => x.ext.cell c2
   refine wp_region_ext (by kernel_rfl) (by kernel_rfl) ?_
   repeat (go_big_quiet_step ((first | (go_at_call 91; exact Calls.ext_of (HCk.out _ (Ext.trans HX.out (ExtOf.ext _)))) | (go_at_call 93; exact Calls.ext_of (EdgesG _)) | (go_at_call 92; exact Calls.ext_of (HRi.out _ (Ext.trans HX.out (ExtOf.ext _)))) | (go_at_call 94; exact Calls.ext_of (HCo.out _ (Ext.trans HX.out (ExtOf.ext _)))))))
   refine wpQuiet_nil ?_
   rintro w1 ⟨⟨_, hb1⟩, rfl⟩
   go_wp2
   go_ret
   exact ⟨rfl, Ext.trans HX.out hb1⟩)
end Go.Proofs.YthlmcfbadhidbaaGreat
/- The program's rows of a graph: Make. -/
namespace Go.Proofs.YthlmcfbadhidbaaGreat
open Go Go.RowKit Go.Shelf Go.Lib
/-- rows that are read -/
def RowsV (w : World) (v : Value) (O T R V : List Int) : Prop :=
  ∃ po no co pt nt ct pr nr cr pv nv cv, v = .agg #[.slice po no co, .slice pt nt ct, .slice pr nr cr, .slice pv nv cv] ∧ Rd w 1 po no (encI O) ∧ Rd w 1 pt nt (encI T) ∧ Rd w 1 pr nr (encI R) ∧ Rd w 1 pv nv (encI V) ∧ no ≤ co ∧ nt ≤ ct ∧ nr ≤ cr ∧ nv ≤ cv
theorem RowsV.ext {w w' : World} {v : Value} {O T R V : List Int} (h : RowsV w v O T R V) (he : Ext w w') : RowsV w' v O T R V := by
  obtain ⟨po, no, co, pt, nt, ct, pr, nr, cr, pv, nv, cv, h0, h1, h2, h3, h4, h5⟩ := h
  exact ⟨po, no, co, pt, nt, ct, pr, nr, cr, pv, nv, cv, h0, h1.ext he, h2.ext he, h3.ext he, h4.ext he, h5⟩
def turnE (E : List (Int × Int)) : List (Int × Int) := putAll lessE (E.map swapE)
def rO (b : Bool) (n : Nat) (E : List (Int × Int)) : List Int := if b = true then offL n E else []
def rT (b : Bool) (E : List (Int × Int)) : List Int := if b = true then toL E else []
def rC (b : Bool) : Int := if b = true then 0 else 20
theorem turnE_bd {N : Int} {E : List (Int × Int)} (h : ∀ x ∈ E, edgeOk N x = true) : ∀ x ∈ turnE E, 0 ≤ x.1 ∧ x.1 < N := fun x hx => by
  unfold turnE at hx
  rw [putAll_mem stoE, List.mem_map] at hx
  obtain ⟨y, hy, rfl⟩ := hx
  have := h y hy
  unfold edgeOk at this
  simp at this
  unfold swapE
  simp only
  omega
set_option maxRecDepth 100000 in
set_option maxHeartbeats 4000000 in
theorem RMakeG_no (N : Int) (pe : Option Addr) (ne ce : Nat) (pw : Option Addr) (nw cw : Nat) (E : List (Int × Int)) (hs : List Hd) (W : List (List ByteArray)) (w : World) (hE : Rd w 2 pe ne (encE E)) (hW : RdW w pw nw hs W) (hz : SzW W) (hi : isB N E W = false) :
    Calls Tryz.prog 46 #[.agg #[.int .i64 N, .slice pe ne ce, .slice pw nw cw]] w fun e w' => e = .returned (.tuple #[.agg #[.slice none 0 0, .slice none 0 0, .slice none 0 0, .slice none 0 0], .int .i64 20]) ∧ Ext w w' := by
  have HI := Lib.hid (fun W1 (h : Ext w W1) => IsG N pe ne ce pw nw cw E hs W W1 (hE.ext h) (hW.ext h) hz)
  rw [hi] at HI
  have S0 := Lib.hid (((Sep.start w).al #[.int .i64 N, .slice pe ne ce, .slice pw nw cw] 78 w.heap.size rfl).al #[.slice none 0 0, .slice none 0 0, .slice none 0 0, .slice none 0 0] 24 (w.heap.size + 1) (by simp))
  clear hE hW hz hi
  go_enter Tryz.func46, Tryz.ntmps46
  go_wp2_with (go_at_call 71; go_must (refine (HI.out _ S0.out.ext).mono ?_; rintro e w1 ⟨rfl, hb⟩; have S1 := Lib.hid (S0.out.call hb); have a0 := (S1.out.blk 0 rfl).cell 0; have a1 := (S1.out.blk 0 rfl).cell 1; have a2 := (S1.out.blk 0 rfl).cell 2; have a3 := (S1.out.blk 0 rfl).cell 3; have b0 := (S1.out.blk 0 rfl).frozen 0; have b1 := (S1.out.blk 0 rfl).frozen 1; have b2 := (S1.out.blk 0 rfl).frozen 2; have b3 := (S1.out.blk 0 rfl).frozen 3; have zb := (S1.out.blk 0 rfl).lt; clear hb))
  have S4 := (((S1.out.set 0 rfl 0 (.slice none 0 0)).set 0 rfl 1 (.slice none 0 0)).set 0 rfl 2 (.slice none 0 0)).set 0 rfl 3 (.slice none 0 0)
  have k0 := (S4.blk 0 rfl).cell 0
  have k1 := (S4.blk 0 rfl).cell 1
  have k2 := (S4.blk 0 rfl).cell 2
  have k3 := (S4.blk 0 rfl).cell 3
  refine bodyPost_ret (v := .tuple #[.agg #[.slice none 0 0, .slice none 0 0, .slice none 0 0, .slice none 0 0], .int .i64 20]) (by simp [results, Tryz.results46, go_sem, k0, k1, k2, k3, Tryz.sizeOf24, Tryz.isAgg24]) rfl ⟨rfl, S4.ext⟩
set_option maxRecDepth 100000 in
set_option maxHeartbeats 8000000 in
theorem RMakeG_yes (n : Nat) (pe : Option Addr) (ne ce : Nat) (pw : Option Addr) (nw cw : Nat) (E : List (Int × Int)) (hs : List Hd) (W : List (List ByteArray)) (w : World) (hE : Rd w 2 pe ne (encE E)) (hW : RdW w pw nw hs W) (hz : SzW W) (hi : isB n E W = true) :
    Calls Tryz.prog 46 #[.agg #[.int .i64 n, .slice pe ne ce, .slice pw nw cw]] w fun e w' => ∃ v, e = .returned (.tuple #[v, .int .i64 0]) ∧ RowsV w' v (offL n E) (toL E) (offL n (turnE E)) (toL (turnE E)) ∧ Ext w w' := by
  have HI := Lib.hid (fun W1 (h : Ext w W1) => IsG n pe ne ce pw nw cw E hs W W1 (hE.ext h) (hW.ext h) hz)
  rw [hi] at HI
  have hc : checkB n E W = true := by
    unfold isB at hi
    rw [Bool.and_eq_true, Bool.and_eq_true] at hi
    exact hi.1.1
  obtain ⟨h1, h2, h3, h4, h5, h6⟩ := checkB_parts hc
  have hEb : ∀ x ∈ E, edgeOk n x = true := List.all_eq_true.1 h5
  have l1 := hE.nE
  have HT := Lib.hid (fun W1 (h : Ext w W1) => TurnedG n pe ne ce pw nw cw E hs W W1 (hE.ext h) (hW.ext h) hz (by omega))
  have hcs : checkB n (E.map swapE) W = true := by rw [check_swap]; exact hc
  obtain ⟨a1, a2, a3, a4⟩ := norm_of hcs (rfl : _ = turnE E) (rfl : _ = W.map (putAll sLess))
  rw [a1, a2, a3, a4] at HT
  have hlt : (turnE E).length ≤ 2000 := by
    unfold turnE
    have := putAll_len lessE (E.map swapE)
    rw [List.length_map] at this; omega
  have HL1 := Lib.hid (fun W1 (h : Ext w W1) => laidG n pe ne ce E W1 (hE.ext h) (by omega) (by omega) (fun x hx => by have := hEb x hx; unfold edgeOk at this; simp at this; omega))
  have HL2 := Lib.hid (fun q c W1 (h : Rd W1 2 q (turnE E).length (encE (turnE E))) => laidG n q (turnE E).length c (turnE E) W1 h (by omega) hlt (turnE_bd hEb))
  generalize turnE E = F at *
  have S0 := Lib.hid (((Sep.start w).al #[.int .i64 n, .slice pe ne ce, .slice pw nw cw] 78 w.heap.size rfl).al #[.slice none 0 0, .slice none 0 0, .slice none 0 0, .slice none 0 0] 24 (w.heap.size + 1) (by simp))
  have h2' : n ≤ 200 := by omega
  have h3' : ne ≤ 2000 := by omega
  generalize W.map (putAll sLess) = V at *
  clear hE hW hz hi hc hcs a1 a2 a3 a4 h1 h2 h3 h4 h5 h6 hEb l1
  go_enter Tryz.func46, Tryz.ntmps46
  go_wp2_with (first
    | (go_at_call 73; have _t := T4; go_must (refine (HL2.out q2 k2 _ ((K2.out.ext T4.out.ext).get 0 rfl)).mono ?_; rintro e w5 ⟨qr, cr, qv, cv, rfl, T⟩; have T5 := Lib.hid (T4.out.comp T); have r0 := (T5.out.blk 4 rfl).cell 0; have r1 := (T5.out.blk 4 rfl).cell 1; have r2c := (T5.out.blk 4 rfl).cell 2; have r3 := (T5.out.blk 4 rfl).cell 3; have rf2 := (T5.out.blk 4 rfl).frozen 2; have rf3 := (T5.out.blk 4 rfl).frozen 3; have rz := (T5.out.blk 4 rfl).lt; have S5 := S2.out.comp T5.out; have u0 := (S5.blk 6 rfl).cell 0; have u1 := (S5.blk 6 rfl).cell 1; have u2 := (S5.blk 6 rfl).cell 2; have u3 := (S5.blk 6 rfl).cell 3; have uf0 := (S5.blk 6 rfl).frozen 0; have uf1 := (S5.blk 6 rfl).frozen 1; have uf2 := (S5.blk 6 rfl).frozen 2; have uf3 := (S5.blk 6 rfl).frozen 3; have uz := (S5.blk 6 rfl).lt; clear T S5))
    | (go_at_call 73; have _t := S2; go_must (refine (HL1.out _ (Ext.trans S2.out.ext (((Sep.start w2).al #[.int .i64 n, .slice q2 F.length k2, .slice r2 V.length m2] 78 w2.heap.size rfl).al #[.slice none 0 0, .slice none 0 0, .slice none 0 0, .slice none 0 0] 24 (w2.heap.size + 1) (by simp)).ext)).mono ?_; rintro e w4 ⟨qo, co, qt, ct, rfl, T⟩; have T3 := (((Sep.start w2).al #[.int .i64 n, .slice q2 F.length k2, .slice r2 V.length m2] 78 w2.heap.size rfl).al #[.slice none 0 0, .slice none 0 0, .slice none 0 0, .slice none 0 0] 24 (w2.heap.size + 1) (by simp)).comp T; have c0 := (T3.blk 2 rfl).cell 0; have c1 := (T3.blk 2 rfl).cell 1; have f0 := (T3.blk 2 rfl).frozen 0; have f1 := (T3.blk 2 rfl).frozen 1; have cz := (T3.blk 2 rfl).lt; have t1 := (T3.blk 3 rfl).cell 1; have tz := (T3.blk 3 rfl).lt; have S3 := S2.out.comp T3; have n0 := (S3.blk 5 rfl).cell 0; have nz := (S3.blk 5 rfl).lt; have T4 := Lib.hid ((T3.set 2 rfl 0 (.slice qo (n + 1) co)).set 2 rfl 1 (.slice qt ne ct)); clear T T3 S3))
    | (go_at_call 72; have _t := S1; go_must (refine (HT.out _ S1.out.ext).mono ?_; rintro e w2 ⟨va, rfl, ⟨q2, k2, r2, m2, h2, rfl, oe, ow⟩, hb⟩; have S2 := Lib.hid (S1.out.call hb); have K2 := Lib.hid ((Kn.nil w2).add (fun w => Rd w 2 q2 F.length (encE F)) (fun _ he => (Rd.of_own oe (by omega)).ext he)); have gz := (S2.out.blk 1 rfl).lt; have g0 := (S2.out.blk 1 rfl).cell 0; have g1 := (S2.out.blk 1 rfl).cell 1; have g2 := (S2.out.blk 1 rfl).cell 2; have gz2 := (S2.out.blk 0 rfl).lt; clear hb oe ow))
    | (go_at_call 71; go_must (refine (HI.out _ S0.out.ext).mono ?_; rintro e w1 ⟨rfl, hb⟩; have S1 := Lib.hid (S0.out.call hb); have xz := (S1.out.blk 1 rfl).lt; have x0 := (S1.out.blk 1 rfl).cell 0; have x1 := (S1.out.blk 1 rfl).cell 1; have x2 := (S1.out.blk 1 rfl).cell 2; clear hb)))
  have S6 := S2.out.comp ((T5.out.set 4 rfl 2 (.slice qr (n + 1) cr)).set 4 rfl 3 (.slice qv F.length cv))
  have S7 := (((S6.set 6 rfl 0 (.slice qo (n + 1) co)).set 6 rfl 1 (.slice qt ne ct)).set 6 rfl 2 (.slice qr (n + 1) cr)).set 6 rfl 3 (.slice qv F.length cv)
  have b0 := (S7.blk 6 rfl).cell 0
  have b1 := (S7.blk 6 rfl).cell 1
  have b2 := (S7.blk 6 rfl).cell 2
  have b3 := (S7.blk 6 rfl).cell 3
  refine bodyPost_ret (v := .tuple #[.agg #[.slice qo (n + 1) co, .slice qt ne ct, .slice qr (n + 1) cr, .slice qv F.length cv], .int .i64 0]) (by simp [results, Tryz.results46, go_sem, b0, b1, b2, b3, Tryz.sizeOf24, Tryz.isAgg24]) rfl ⟨_, rfl, ?_, S7.ext⟩
  exact ⟨qo, _, co, qt, _, ct, qr, _, cr, qv, _, cv, rfl, S7.rd 3 rfl (by omega), S7.rd 2 rfl (by omega), S7.rd 1 rfl (by omega), S7.rd 0 rfl (by omega), own_cap (S7.own 3 rfl), own_cap (S7.own 2 rfl), own_cap (S7.own 1 rfl), own_cap (S7.own 0 rfl)⟩
theorem RMakeG (N : Int) (pe : Option Addr) (ne ce : Nat) (pw : Option Addr) (nw cw : Nat) (E : List (Int × Int)) (hs : List Hd) (W : List (List ByteArray)) (w : World) (hE : Rd w 2 pe ne (encE E)) (hW : RdW w pw nw hs W) (hz : SzW W) :
    Calls Tryz.prog 46 #[.agg #[.int .i64 N, .slice pe ne ce, .slice pw nw cw]] w fun e w' => ∃ v, e = .returned (.tuple #[v, .int .i64 (rC (isB N E W))]) ∧ RowsV w' v (rO (isB N E W) N.toNat E) (rT (isB N E W) E) (rO (isB N E W) N.toNat (turnE E)) (rT (isB N E W) (turnE E)) ∧ Ext w w' := by
  cases hi : isB N E W with
  | false =>
    refine (RMakeG_no N pe ne ce pw nw cw E hs W w hE hW hz hi).mono ?_
    rintro e w' ⟨rfl, h⟩
    exact ⟨_, rfl, ⟨none, 0, 0, none, 0, 0, none, 0, 0, none, 0, 0, rfl, Rd.nil _ _ _, Rd.nil _ _ _, Rd.nil _ _ _, Rd.nil _ _ _, Nat.le_refl _, Nat.le_refl _, Nat.le_refl _, Nat.le_refl _⟩, h⟩
  | true =>
    have hN : 1 ≤ N := by
      unfold isB at hi
      rw [Bool.and_eq_true, Bool.and_eq_true] at hi
      exact (checkB_parts hi.1.1).1
    obtain ⟨n, rfl⟩ : ∃ n : Nat, N = (n : Int) := ⟨N.toNat, by omega⟩
    exact RMakeG_yes n pe ne ce pw nw cw E hs W w hE hW hz hi
end Go.Proofs.YthlmcfbadhidbaaGreat
/- The document's example rows. -/
namespace Go.Proofs.YthlmcfbadhidbaaGreat
open Go Go.RowKit
def exE3 : List (Int × Int) := [(0, 1), (0, 2), (2, 1)]
def exO : List Int := [0, 2, 2, 3]
def exT : List Int := [1, 2, 1]
def exR : List Int := [0, 0, 2, 3]
def exV : List Int := [0, 2, 0]
theorem exI3 : isB 3 exE3 [[], [], []] = true := by decide
theorem exO_eq : offL 3 exE3 = exO := by decide
theorem exT_eq : toL exE3 = exT := by decide
theorem exR_eq : offL 3 (turnE exE3) = exR := by decide
theorem exV_eq : toL (turnE exE3) = exV := by decide
theorem exCk : checkR exO exT exR exV = true := by decide
theorem exIn : outL true exR exV 1 = [0, 2] ∧ outB true exR 1 = true := by decide
theorem exH1 : hasB true exO exT 0 2 = true := by decide
theorem exH2 : hasB true exO exT 1 0 = false := by decide
theorem exI0 : isB 0 [] [] = false := by decide
/-- four slices are read -/
structure R4 (w : World) (po : Option Addr) (no : Nat) (pt : Option Addr) (nt : Nat) (pr : Option Addr) (nr : Nat) (pv : Option Addr) (nv : Nat) (O T R V : List Int) : Prop where
  o : Rd w 1 po no (encI O)
  t : Rd w 1 pt nt (encI T)
  r : Rd w 1 pr nr (encI R)
  v : Rd w 1 pv nv (encI V)
theorem R4.ext {w w' : World} {po : Option Addr} {no : Nat} {pt : Option Addr} {nt : Nat} {pr : Option Addr} {nr : Nat} {pv : Option Addr} {nv : Nat} {O T R V : List Int} (h : R4 w po no pt nt pr nr pv nv O T R V) (he : Ext w w') : R4 w' po no pt nt pr nr pv nv O T R V := ⟨h.o.ext he, h.t.ext he, h.r.ext he, h.v.ext he⟩
theorem exMk3 (w : World) : Calls Tryz.prog 46 #[.agg #[.int .i64 3, .slice (some ⟨w.heap.size, 0, none⟩) 3 3, .slice (some ⟨w.heap.size + 1, 0, none⟩) 3 3]] ((w.alloc (.cells #[.int .i64 0, .int .i64 1, .int .i64 0, .int .i64 2, .int .i64 2, .int .i64 1] 74)).alloc (.cells #[.slice none 0 0, .slice none 0 0, .slice none 0 0] 129)) fun e w' =>
    ∃ po no co pt nt ct pr nr cr pv nv cv, e = .returned (.tuple #[.agg #[.slice po no co, .slice pt nt ct, .slice pr nr cr, .slice pv nv cv], .int .i64 0]) ∧ R4 w' po no pt nt pr nr pv nv exO exT exR exV ∧ nt ≤ ct ∧ nv ≤ cv ∧ Ext w w' := by
  obtain ⟨a1, a2, a3⟩ := alloc2B w #[.int .i64 0, .int .i64 1, .int .i64 0, .int .i64 2, .int .i64 2, .int .i64 1] #[.slice none 0 0, .slice none 0 0, .slice none 0 0] 74 129
  generalize ((w.alloc (.cells #[.int .i64 0, .int .i64 1, .int .i64 0, .int .i64 2, .int .i64 2, .int .i64 1] 74)).alloc (.cells #[.slice none 0 0, .slice none 0 0, .slice none 0 0] 129)) = W at *
  have h1 : Rd W 2 (some ⟨w.heap.size, 0, none⟩) 3 (encE exE3) := a1.rd rfl rfl (by decide)
  have h2 : RdW W (some ⟨w.heap.size + 1, 0, none⟩) 3 [⟨none, 0, 0⟩, ⟨none, 0, 0⟩, ⟨none, 0, 0⟩] [[], [], []] := ⟨rfl, a2.rd rfl rfl (by decide), fun j hj => by
    have : j = 0 ∨ j = 1 ∨ j = 2 := by omega
    rcases this with rfl | rfl | rfl <;> exact Rd.nil _ _ _⟩
  have hz : SzW [[], [], []] := fun l hl s hs => by simp at hl; subst hl; cases hs
  refine (RMakeG_yes 3 _ 3 3 _ 3 3 exE3 _ _ W h1 h2 hz exI3).mono ?_
  rintro e w' ⟨v, rfl, ⟨po, no, co, pt, nt, ct, pr, nr, cr, pv, nv, cv, rfl, k1, k2, k3, k4, k5, k6, k7, k8⟩, hb⟩
  rw [exO_eq] at k1
  rw [exT_eq] at k2
  rw [exR_eq] at k3
  rw [exV_eq] at k4
  exact ⟨po, no, co, pt, nt, ct, pr, nr, cr, pv, nv, cv, rfl, ⟨k1, k2, k3, k4⟩, k6, k8, Ext.trans a3 hb⟩
theorem exMk0 (w : World) : Calls Tryz.prog 46 #[.agg #[.int .i64 0, .slice none 0 0, .slice none 0 0]] w fun e w' => e = .returned (.tuple #[.agg #[.slice none 0 0, .slice none 0 0, .slice none 0 0, .slice none 0 0], .int .i64 20]) ∧ Ext w w' :=
  RMakeG_no 0 none 0 0 none 0 0 [] [] [] w (Rd.nil _ _ _) ⟨rfl, Rd.nil _ _ _, fun j hj => by omega⟩ (fun l hl => nomatch hl) exI0
section
variable (po : Option Addr) (no co : Nat) (pt : Option Addr) (nt ct : Nat) (pr : Option Addr) (nr cr : Nat) (pv : Option Addr) (nv cv : Nat) (w : World) (h : R4 w po no pt nt pr nr pv nv exO exT exR exV) (hct : nt ≤ ct) (hcv : nv ≤ cv)
include h hct hcv
theorem exCkG : Calls Tryz.prog 40 #[.agg #[.slice po no co, .slice pt nt ct, .slice pr nr cr, .slice pv nv cv]] w fun e w' => e = .returned (.bool true) ∧ Ext w w' := by
  have := CheckR po no co exO pt nt ct exT pr nr cr exR pv nv cv exV w h.o h.t h.r h.v hct hcv
  rwa [exCk] at this
end
/-- the example's rows where they lie -/
theorem exWant4 (w : World) (cs : Array Value) : ∃ X, X = (((((w.alloc (.cells cs 24)).alloc (.cells #[.int .i64 0, .int .i64 2, .int .i64 2, .int .i64 3] 3)).alloc (.cells #[.int .i64 1, .int .i64 2, .int .i64 1] 3)).alloc (.cells #[.int .i64 0, .int .i64 0, .int .i64 2, .int .i64 3] 3)).alloc (.cells #[.int .i64 0, .int .i64 2, .int .i64 0] 3)) ∧
    Sep w X [.blk w.heap.size 24 cs] ∧ X.heap.size = w.heap.size + 1 + 1 + 1 + 1 + 1 ∧
    R4 X (some ⟨w.heap.size + 1, 0, none⟩) 4 (some ⟨w.heap.size + 1 + 1, 0, none⟩) 3 (some ⟨w.heap.size + 1 + 1 + 1, 0, none⟩) 4 (some ⟨w.heap.size + 1 + 1 + 1 + 1, 0, none⟩) 3 exO exT exR exV := by
  have S := (((((Sep.start w).al cs 24 w.heap.size rfl).al #[.int .i64 0, .int .i64 2, .int .i64 2, .int .i64 3] 3 (w.heap.size + 1) (by simp)).al #[.int .i64 1, .int .i64 2, .int .i64 1] 3 (w.heap.size + 1 + 1) (by simp)).al #[.int .i64 0, .int .i64 0, .int .i64 2, .int .i64 3] 3 (w.heap.size + 1 + 1 + 1) (by simp)).al #[.int .i64 0, .int .i64 2, .int .i64 0] 3 (w.heap.size + 1 + 1 + 1 + 1) (by simp)
  exact ⟨_, rfl, S.pick [4] (by decide) rfl, by simp, (S.blk 3 rfl).rd rfl rfl (by decide), (S.blk 2 rfl).rd rfl rfl (by decide), (S.blk 1 rfl).rd rfl rfl (by decide), (S.blk 0 rfl).rd rfl rfl (by decide)⟩
end Go.Proofs.YthlmcfbadhidbaaGreat
/- The program's Edges of rows. -/
namespace Go.Proofs.YthlmcfbadhidbaaGreat
open Go Go.RowKit Go.Shelf Go.Lib
attribute [local go_sem] Oper.semAt_some
def edgL (b : Bool) (O T : List Int) : List (Int × Int) := if b = true then pairs O T else []
def edgC (b : Bool) : Int := if b = true then 0 else 40
def edgPc (a b : Nat) (po : Option Addr) (no co : Nat) (pt : Option Addr) (nt ct : Nat) (cs : Array Value) (q : Option Addr) (c : Nat) (l : List (Int × Int)) : List Pc :=
  [.blk (b + 1 + 1) 22 #[.slice pt nt ct], .blk (b + 1) 22 #[.slice po no co], .blk b 75 #[.slice q l.length c], .blk a 24 cs, .own 74 2 q l.length c (encE l)]
theorem edgPc_cells (a b : Nat) (po : Option Addr) (no co : Nat) (pt : Option Addr) (nt ct : Nat) (cs : Array Value) (q : Option Addr) (c : Nat) (l : List (Int × Int)) : ∀ x ∈ edgPc a b po no co pt nt ct cs q c l, x.cells :=
  cells_all fun x hx => by simp [edgPc] at hx; rcases hx with h | h | h | h | h <;> first | exact .inl ⟨_, _, _, h⟩ | exact .inr ⟨_, _, _, _, _, _, h⟩
theorem pairs_len {O T : List Int} (h : OffOk O T) (h0 : nth O 0 = 0) : ∀ k, k < O.length → (pairsK O T k).length = (nth O k).toNat
  | 0, _ => by rw [h0]; rfl
  | k + 1, hk => by
    rw [pairsK_step, List.length_append, pairs_len h h0 k (by omega)]
    unfold rowX
    rw [List.length_map, rowL_len h hk]
    have := h.le k hk
    have := h.lo k (by omega)
    omega
end Go.Proofs.YthlmcfbadhidbaaGreat
/- The reference's Edges and Own of rows. -/
namespace Go.Proofs.YthlmcfbadhidbaaGreat
open Go Go.RowKit
def OwnQ (b : Nat) (no nt nr nv : Nat) (O T R V : List Int) (i : Nat) (v : Value) (W : World) : Prop :=
  match i with
  | 2 => ∃ q d, v = .slice q no d ∧ W.ownsRow b 3 1 (.slice q no d) no (encI O)
  | 5 => ∃ q d, v = .slice q nt d ∧ W.ownsRow b 3 1 (.slice q nt d) nt (encI T)
  | 8 => ∃ q d, v = .slice q nr d ∧ W.ownsRow b 3 1 (.slice q nr d) nr (encI R)
  | 11 => ∃ q d, v = .slice q nv d ∧ W.ownsRow b 3 1 (.slice q nv d) nv (encI V)
  | _ => True
theorem OwnQ_mono {b no nt nr nv : Nat} {O T R V : List Int} : ∀ i v W W', Ext W W' → OwnQ b no nt nr nv O T R V i v W → OwnQ b no nt nr nv O T R V i v W' := by
  intro i v W W' he h
  unfold OwnQ at *
  split at h <;> first | trivial | (obtain ⟨q, c, h1, h2⟩ := h; exact ⟨q, c, h1, he.own h2⟩)
set_option maxRecDepth 100000 in
set_option maxHeartbeats 4000000 in
theorem Own04 (po : Option Addr) (no co : Nat) (O : List Int) (pt : Option Addr) (nt ct : Nat) (T : List Int) (pr : Option Addr) (nr cr : Nat) (R : List Int) (pv : Option Addr) (nv cv : Nat) (V : List Int) (w : World) (hO : Rd w 1 po no (encI O)) (hT : Rd w 1 pt nt (encI T)) (hR : Rd w 1 pr nr (encI R)) (hV : Rd w 1 pv nv (encI V)) (b1 : no ≤ 100000) (b2 : nt ≤ 100000) (b3 : nr ≤ 100000) (b4 : nv ≤ 100000) :
    Calls Tryz.prog 11 #[.agg #[.slice po no co, .slice pt nt ct, .slice pr nr cr, .slice pv nv cv]] w fun e w' => ∃ qo do' qt dt qr dr qv dv, e = .returned (.agg #[.slice qo no do', .slice qt nt dt, .slice qr nr dr, .slice qv nv dv]) ∧ R4 w' qo no qt nt qr nr qv nv O T R V ∧ nt ≤ dt ∧ nv ≤ dv ∧ Ext w w' := by
  have HO := Lib.hid (fun W1 (h : Ext w W1) => OwnI01 po no co O W1 (hO.ext h) (by omega))
  have HT := Lib.hid (fun W1 (h : Ext w W1) => OwnI01 pt nt ct T W1 (hT.ext h) (by omega))
  have HR := Lib.hid (fun W1 (h : Ext w W1) => OwnI01 pr nr cr R W1 (hR.ext h) (by omega))
  have HV := Lib.hid (fun W1 (h : Ext w W1) => OwnI01 pv nv cv V W1 (hV.ext h) (by omega))
  have D1 := Lib.hid b1
  have D2 := Lib.hid b2
  have D3 := Lib.hid b3
  have D4 := Lib.hid b4
  obtain ⟨X, hX⟩ : ∃ X, X = (w.alloc (.cells #[.slice po no co, .slice pt nt ct, .slice pr nr cr, .slice pv nv cv] 24)).alloc (.cells #[.slice none 0 0, .slice none 0 0, .slice none 0 0, .slice none 0 0] 24) := ⟨_, rfl⟩
  have S0 := Lib.hid (hX ▸ (((Sep.start w).al #[.slice po no co, .slice pt nt ct, .slice pr nr cr, .slice pv nv cv] 24 w.heap.size rfl).al #[.slice none 0 0, .slice none 0 0, .slice none 0 0, .slice none 0 0] 24 (w.heap.size + 1) (by simp)) : Sep w X _)
  clear hO hT hR hV b1 b2 b3 b4
  go_enter Tryz.func11, Tryz.ntmps11
  go_wp2
  rw [← hX]
  clear hX
  have az := (S0.out.blk 1 rfl).lt; have a0 := (S0.out.blk 1 rfl).cell 0; have a1 := (S0.out.blk 1 rfl).cell 1; have a2 := (S0.out.blk 1 rfl).cell 2; have a3 := (S0.out.blk 1 rfl).cell 3
  have x0 := fun x : ExtOf X => x.ext.cell a0
  have x1 := fun x : ExtOf X => x.ext.cell a1
  have x2 := fun x : ExtOf X => x.ext.cell a2
  have x3 := fun x : ExtOf X => x.ext.cell a3
  refine wp_region_mix [true, true, false, true, true, false, true, true, false, true, true, false] (OwnQ X.heap.size no nt nr nv O T R V) (by kernel_rfl) (by kernel_rfl) (by kernel_rfl) OwnQ_mono ?_
  simp only [nfM]
  repeat (go_big_quiet_step ((fail)))
  refine wpQuiet_nil ⟨⟨fun vs W1 hE hd => ?_, fun vs W1 hE hd => ?_, fun vs W1 hE hd => ?_, fun vs W1 hE hd => ?_, trivial⟩, fun vs W1 hE hkn => ?_⟩
  · simp [putM, go_sem]
    exact (HO.out _ (Ext.trans S0.out.ext hE)).mono fun e w' ⟨q, d, h1, S⟩ => ⟨_, h1, ⟨q, d, rfl, own_base (S.own 0 rfl) hE.size⟩, S.ext⟩
  · simp [putM, go_sem]
    exact (HT.out _ (Ext.trans S0.out.ext hE)).mono fun e w' ⟨q, d, h1, S⟩ => ⟨_, h1, ⟨q, d, rfl, own_base (S.own 0 rfl) hE.size⟩, S.ext⟩
  · simp [putM, go_sem]
    exact (HR.out _ (Ext.trans S0.out.ext hE)).mono fun e w' ⟨q, d, h1, S⟩ => ⟨_, h1, ⟨q, d, rfl, own_base (S.own 0 rfl) hE.size⟩, S.ext⟩
  · simp [putM, go_sem]
    exact (HV.out _ (Ext.trans S0.out.ext hE)).mono fun e w' ⟨q, d, h1, S⟩ => ⟨_, h1, ⟨q, d, rfl, own_base (S.own 0 rfl) hE.size⟩, S.ext⟩
  obtain ⟨⟨qo, do', k1, r1⟩, ⟨qt, dt, k2, r2⟩, ⟨qr, dr, k3, r3⟩, ⟨qv, dv, k4, r4⟩, _⟩ := hkn
  have c2 := own_cap r2
  have c4 := own_cap r4
  have SY := Lib.hid (S0.out.call hE)
  have Y1 := Lib.hid (S0.out.fresh hE r1 (Nat.le_refl _))
  have Y2 := Lib.hid (S0.out.fresh hE r2 (Nat.le_refl _))
  have Y3 := Lib.hid (S0.out.fresh hE r3 (Nat.le_refl _))
  have Y4 := Lib.hid (S0.out.fresh hE r4 (Nat.le_refl _))
  simp only [putM, k1, k2, k3, k4, List.length_cons, List.length_nil, Nat.zero_add, Nat.reduceAdd, List.drop_succ_cons, List.drop_zero]
  clear x0 x1 x2 x3 k1 k2 k3 k4 hE r1 r2 r3 r4 a0 a1 a2 a3 az
  have uz := (SY.out.blk 0 rfl).lt; have u0 := (SY.out.blk 0 rfl).cell 0; have u1 := (SY.out.blk 0 rfl).cell 1; have u2 := (SY.out.blk 0 rfl).cell 2; have u3 := (SY.out.blk 0 rfl).cell 3
  have uf0 := (SY.out.blk 0 rfl).frozen 0
  have uf1 := (SY.out.blk 0 rfl).frozen 1
  have uf2 := (SY.out.blk 0 rfl).frozen 2
  have uf3 := (SY.out.blk 0 rfl).frozen 3
  go_wp2
  have S7 := (((SY.out.set 0 rfl 0 (.slice qo no do')).set 0 rfl 1 (.slice qt nt dt)).set 0 rfl 2 (.slice qr nr dr)).set 0 rfl 3 (.slice qv nv dv)
  have b0 := (S7.blk 0 rfl).cell 0
  have b1 := (S7.blk 0 rfl).cell 1
  have b2 := (S7.blk 0 rfl).cell 2
  have b3 := (S7.blk 0 rfl).cell 3
  refine bodyPost_ret (v := .agg #[.slice qo no do', .slice qt nt dt, .slice qr nr dr, .slice qv nv dv]) (by simp [results, Tryz.results11, go_sem, b0, b1, b2, b3, Tryz.sizeOf24, Tryz.isAgg24]) rfl ⟨qo, do', qt, dt, qr, dr, qv, dv, rfl, ?_, c2, c4, S7.ext⟩
  exact ⟨((((Y1.out.set 1 rfl 0 (.slice qo no do')).set 1 rfl 1 (.slice qt nt dt)).set 1 rfl 2 (.slice qr nr dr)).set 1 rfl 3 (.slice qv nv dv)).rd 0 rfl (by have := D1.out; omega), ((((Y2.out.set 1 rfl 0 (.slice qo no do')).set 1 rfl 1 (.slice qt nt dt)).set 1 rfl 2 (.slice qr nr dr)).set 1 rfl 3 (.slice qv nv dv)).rd 0 rfl (by have := D2.out; omega), ((((Y3.out.set 1 rfl 0 (.slice qo no do')).set 1 rfl 1 (.slice qt nt dt)).set 1 rfl 2 (.slice qr nr dr)).set 1 rfl 3 (.slice qv nv dv)).rd 0 rfl (by have := D3.out; omega), ((((Y4.out.set 1 rfl 0 (.slice qo no do')).set 1 rfl 1 (.slice qt nt dt)).set 1 rfl 2 (.slice qr nr dr)).set 1 rfl 3 (.slice qv nv dv)).rd 0 rfl (by have := D4.out; omega)⟩
set_option maxRecDepth 100000 in
set_option maxHeartbeats 8000000 in
theorem Edges04_yes (po : Option Addr) (no co : Nat) (O : List Int) (pt : Option Addr) (nt ct : Nat) (T : List Int) (pr : Option Addr) (nr cr : Nat) (R : List Int) (pv : Option Addr) (nv cv : Nat) (V : List Int) (w : World) (hO : Rd w 1 po no (encI O)) (hT : Rd w 1 pt nt (encI T)) (hR : Rd w 1 pr nr (encI R)) (hV : Rd w 1 pv nv (encI V)) (hct : nt ≤ ct) (hcv : nv ≤ cv) (hck : checkR O T R V = true) :
    Calls Tryz.prog 110 #[.agg #[.slice po no co, .slice pt nt ct, .slice pr nr cr, .slice pv nv cv]] w fun e w' => ∃ q c, e = .returned (.tuple #[.slice q (edgL true O T).length c, .int .i64 (edgC true)]) ∧ Sep w w' [.own 74 2 q (edgL true O T).length c (encE (edgL true O T))] := by
  obtain ⟨i0, hi0, hz0, hz1, hz2⟩ := info_parts inf34
  have S0 := Lib.hid ((Sep.start w).al #[.slice po no co, .slice pt nt ct, .slice pr nr cr, .slice pv nv cv] 24 w.heap.size rfl)
  have HC := Lib.hid (fun W1 (h : Ext w W1) => Check04 po no co O pt nt ct T pr nr cr R pv nv cv V W1 (hO.ext h) (hT.ext h) (hR.ext h) (hV.ext h) hct hcv)
  rw [hck] at HC
  have h1 := (checkR_half hck).2.2.1
  have r := offB_parts (halfB_off h1)
  have HOK := offOk_of (halfB_off h1)
  have l1 := hO.nI
  have l2 := hT.nI
  have n1 := hO.small
  have L1 := Lib.hid l1
  have hpk : Hid (∀ k, k < O.length - 1 → ∀ j, (pairsK O T k ++ (rowX O T k).take j).length ≤ 2000) := fun k hk j => by
    have h := (pairs_prefix (O := O) (T := T) (j := j) hk).length_le
    unfold pairs at h
    rw [pairs_len HOK r.2.2.2.1 (O.length - 1) (by omega), r.2.2.2.2.1] at h
    omega
  have HR1 := Lib.hid (fun W1 (h : Ext w W1) k (hk : k + 1 < O.length) => row04 po no co O pt nt ct T k W1 (hO.ext h) (hT.ext h) hct HOK hk (by omega))
  have no200 : no ≤ 201 := by omega
  have rl2000 : ∀ k, (rowL O T k).length ≤ 2000 := fun k => by unfold rowL; rw [List.length_take, List.length_drop]; omega
  have RL := Lib.hid rl2000
  clear hO hT hR hV hck h1 r HOK l1 l2 rl2000
  show Calls _ _ _ _ fun e w' => ∃ q c, e = .returned (.tuple #[.slice q (pairs O T).length c, .int .i64 0]) ∧ Sep w w' [.own 74 2 q (pairs O T).length c (encE (pairs O T))]
  go_enter Tryz.func110, Tryz.ntmps110
  go_wp2_with (go_at_call 43; go_must (refine (HC.out _ S0.out.ext).mono ?_; rintro e w1 ⟨rfl, hb⟩; have S1 := Lib.hid (S0.out.call hb); have az := (S1.out.blk 0 rfl).lt; have a0 := (S1.out.blk 0 rfl).cell 0; have a1 := (S1.out.blk 0 rfl).cell 1; have a2 := (S1.out.blk 0 rfl).cell 2; have a3 := (S1.out.blk 0 rfl).cell 3; clear hb))
  go_loopw [4, 5, 6, 7] (fun out v _ _ wr => ∃ (k : Nat) (q : Option Addr) (c : Nat), k ≤ no - 1 ∧ v = .int .i64 k ∧ out = .slice q (pairsK O T k).length c ∧ Sep w wr [.own 74 2 q (pairsK O T k).length c (encE (pairsK O T k)), .blk w.heap.size 24 #[.slice po no co, .slice pt nt ct, .slice pr nr cr, .slice pv nv cv]]) (fun _ v _ _ _ => no - 1 - (intOf v).toNat)
  case atStart => exact ⟨0, none, 0, Nat.zero_le _, rfl, rfl, S1.out.nilrow _ _⟩
  case round =>
    clear S0 S1 a0 a1 a2 a3 az
    obtain ⟨k, q, c, hk, rfl, rfl, S⟩ := hrel
    have az := (S.blk 1 rfl).lt; have a0 := (S.blk 1 rfl).cell 0; have a1 := (S.blk 1 rfl).cell 1; have a2 := (S.blk 1 rfl).cell 2; have a3 := (S.blk 1 rfl).cell 3
    by_cases hlt : k < no - 1
    · have hkO : k + 1 < O.length := by have := L1.out; omega
      have t1 : (k:Int) + 1 < no := by omega
      have t0 : (0:Int) ≤ k := by omega
      have HRk := Lib.hid (fun W1 (h : Ext w W1) => HR1.out W1 h k hkO)
      have rlk := RL.out k
      have hpl := Lib.hid (hpk.out k (by omega))
      have hst := Lib.hid (fun j (hj : j < (rowL O T k).length) => rowX_take (O := O) (T := T) hj)
      have hend : Hid ((rowX O T k).take (rowL O T k).length = rowX O T k) := by unfold Hid rowX; rw [List.take_of_length_le (by simp)]
      have hps := Lib.hid (pairsK_step O T k)
      generalize rowL O T k = l at *
      generalize rowX O T k = xs at *
      generalize pairsK O T k = ps at *
      have SH := Lib.hid S; clear S
      go_wp2_with (go_at_call 69; go_must (refine (HRk.out _ SH.out.ext).mono ?_; rintro e w3 ⟨q2, c2, rfl, Z⟩; have P1 := Lib.hid (SH.out.comp Z); clear Z))
      go_loopw [4, 7] (fun out i wr => ∃ (j : Nat) (q : Option Addr) (c : Nat), j ≤ l.length ∧ i = .int .i64 j ∧ out = .slice q (ps ++ xs.take j).length c ∧ Sep w wr [.own 3 1 q2 l.length c2 (encI l), .own 74 2 q (ps ++ xs.take j).length c (encE (ps ++ xs.take j)), .blk w.heap.size 24 #[.slice po no co, .slice pt nt ct, .slice pr nr cr, .slice pv nv cv]]) (fun _ i _ => l.length - (intOf i).toNat)
      case atStart => exact ⟨0, q, c, Nat.zero_le _, rfl, by simp, by simpa using P1.out⟩
      case round =>
        clear SH P1 a0 a1 a2 a3 az
        obtain ⟨j, q, c, hj, rfl, rfl, S⟩ := hrel
        have pq := (S.rd 0 rfl (by omega)).ptr
        by_cases hlj : j < l.length
        · have g1 := (S.rd 0 rfl (by omega)).cI hlj
          have h0 := hpl.out j
          have hs : Hid (ps ++ xs.take (j + 1) = (ps ++ xs.take j) ++ [((k:Int), nth l j)]) := by unfold Hid; rw [hst.out j hlj, List.append_assoc]
          generalize ps ++ xs.take j = ys at *
          generalize nth l j = x at *
          have t2 : (0:Int) ≤ j := by omega
          have t3 : (j:Int) < l.length := by omega
          have SH := Lib.hid S; clear S
          go_wp2_with (at_builtin; go_must (refine wpList_append_sep rfl _ _ _ rfl 74 i0 _ 2 16 Tryz.underlying75 hi0 hz0 hz1 hz2 rfl (by omega) (SH.out.junk _) 1 q ys.length c _ rfl rfl _ 1 1 _ rfl (Rd.one2 _ _ _ _) (one_encE _) (by omega) (by omega) ?_; intro q' c' w' S' hsz; have S5 := Lib.hid S'; clear S' hsz))
          go_roundw
          case rel => exact ⟨j + 1, q', c', by omega, by go_num, by rw [hs.out, List.length_append]; rfl, by rw [hs.out, List.length_append, encE_append]; exact S5.out⟩
          case measure => simp [intOf]; omega
        · obtain rfl : j = l.length := by omega
          rw [hend.out, ← hps.out] at S
          rw [hend.out, ← hps.out]
          have SH := Lib.hid S; clear S
          go_wp2
          go_roundw
          case rel => exact ⟨k + 1, q, c, by omega, by go_num, rfl, SH.out.pick [1, 2] (by decide) rfl⟩
          case measure => simp [intOf]; omega
    · have hend : pairsK O T k = pairs O T := by
        unfold pairs
        rw [show O.length - 1 = k by have := L1.out; omega]
      rw [hend] at S
      rw [hend]
      have t1 : decide ((k:Int) + 1 < no) = false := by simp; omega
      have SH := Lib.hid S; clear S
      clear hend
      go_wp2
      go_ret2
      exact ⟨q, c, rfl, SH.out.pick [0] (by decide) rfl⟩
theorem Edges04 (po : Option Addr) (no co : Nat) (O : List Int) (pt : Option Addr) (nt ct : Nat) (T : List Int) (pr : Option Addr) (nr cr : Nat) (R : List Int) (pv : Option Addr) (nv cv : Nat) (V : List Int) (w : World) (hO : Rd w 1 po no (encI O)) (hT : Rd w 1 pt nt (encI T)) (hR : Rd w 1 pr nr (encI R)) (hV : Rd w 1 pv nv (encI V)) (hct : nt ≤ ct) (hcv : nv ≤ cv) :
    Calls Tryz.prog 110 #[.agg #[.slice po no co, .slice pt nt ct, .slice pr nr cr, .slice pv nv cv]] w fun e w' => ∃ q c, e = .returned (.tuple #[.slice q (edgL (checkR O T R V) O T).length c, .int .i64 (edgC (checkR O T R V))]) ∧ Sep w w' [.own 74 2 q (edgL (checkR O T R V) O T).length c (encE (edgL (checkR O T R V) O T))] := by
  cases hck : checkR O T R V with
  | true => exact Edges04_yes po no co O pt nt ct T pr nr cr R pv nv cv V w hO hT hR hV hct hcv hck
  | false =>
    have S0 := Lib.hid ((Sep.start w).al #[.slice po no co, .slice pt nt ct, .slice pr nr cr, .slice pv nv cv] 24 w.heap.size rfl)
    have HC := Lib.hid (fun W1 (h : Ext w W1) => Check04 po no co O pt nt ct T pr nr cr R pv nv cv V W1 (hO.ext h) (hT.ext h) (hR.ext h) (hV.ext h) hct hcv)
    rw [hck] at HC
    clear hO hT hR hV hck
    show Calls _ _ _ _ fun e w' => ∃ q c, e = .returned (.tuple #[.slice q 0 c, .int .i64 40]) ∧ Sep w w' [.own 74 2 q 0 c []]
    go_enter Tryz.func110, Tryz.ntmps110
    go_wp2_with (go_at_call 43; go_must (refine (HC.out _ S0.out.ext).mono ?_; rintro e w1 ⟨rfl, hb⟩; have S1 := Lib.hid (S0.out.call hb); have az := (S1.out.blk 0 rfl).lt; have a0 := (S1.out.blk 0 rfl).cell 0; have a1 := (S1.out.blk 0 rfl).cell 1; have a2 := (S1.out.blk 0 rfl).cell 2; have a3 := (S1.out.blk 0 rfl).cell 3; clear hb))
    go_ret2
    exact ⟨none, 0, rfl, ((Sep.start w).call S1.out.ext).nilrow _ _⟩
end Go.Proofs.YthlmcfbadhidbaaGreat
