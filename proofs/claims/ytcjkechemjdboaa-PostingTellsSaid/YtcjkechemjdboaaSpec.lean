/- The plain functions of chapter 2: what a graph's texts, edges and rows are. No program in sight. -/
import Derived.Test.YtcjkechemjdboaaBase
namespace Go.Proofs.Ytcjkechemjdboaa
def lowB (b : UInt8) : Bool := decide (97 ≤ b.toNat ∧ b.toNat ≤ 122)
def wordB (s : ByteArray) : Bool := s.data.toList.all lowB && decide (1 ≤ s.size) && decide (s.size ≤ 12)
def lessE (a b : Int × Int) : Bool := decide (a.1 < b.1 ∨ a.1 = b.1 ∧ a.2 < b.2)
def edgeOk (N : Int) (x : Int × Int) : Bool := decide (0 ≤ x.1 ∧ x.1 < N ∧ 0 ≤ x.2 ∧ x.2 < N)
def rowOk (l : List ByteArray) : Bool := l.all wordB && decide (l.length ≤ 8)
def checkB (N : Int) (E : List (Int × Int)) (W : List (List ByteArray)) : Bool :=
  decide (1 ≤ N) && decide (N ≤ 200) && decide (E.length ≤ 2000) && decide ((W.length : Int) = N) && E.all (edgeOk N) && W.all rowOk
/-- two graphs are the same -/
def sameB (N : Int) (E : List (Int × Int)) (W : List (List ByteArray)) (N2 : Int) (E2 : List (Int × Int)) (W2 : List (List ByteArray)) : Bool := decide (N = N2 ∧ E = E2 ∧ W = W2)
/-- each is less than the next -/
def riseAt {α : Type} [Inhabited α] (lt : α → α → Bool) (l : List α) (i : Nat) : Bool := lt (nth l i) (nth l (i + 1))
def riseB {α : Type} [Inhabited α] (lt : α → α → Bool) (l : List α) : Bool := (List.range (l.length - 1)).all (riseAt lt l)
theorem range_all_succ (f : Nat → Bool) (k : Nat) (h : (List.range k).all f = true) (hf : f k = true) : (List.range (k + 1)).all f = true := by
  rw [List.range_succ, List.all_append, h]; simp [hf]
theorem range_all_no (f : Nat → Bool) (n k : Nat) (hk : k < n) (hf : f k = false) : (List.range n).all f = false := by
  rw [List.all_eq_false]; exact ⟨k, by simpa using hk, by simp [hf]⟩
def isB (N : Int) (E : List (Int × Int)) (W : List (List ByteArray)) : Bool := checkB N E W && riseB lessE E && W.all (riseB sLess)
theorem take_all_succ {α : Type} [Inhabited α] (f : α → Bool) (l : List α) (k : Nat) (h : k < l.length) : (l.take (k + 1)).all f = ((l.take k).all f && f (nth l k)) := by
  rw [take_succ_nth l k h, List.all_append]; simp
theorem all_false_at {α : Type} [Inhabited α] (f : α → Bool) (l : List α) (k : Nat) (h : k < l.length) (hf : f (nth l k) = false) : l.all f = false := by
  rw [List.all_eq_false]; rw [nth_eq h] at hf; exact ⟨_, List.getElem_mem h, by simp [hf]⟩
section
variable {α : Type} [Inhabited α]
theorem eq_step {l m : List α} {k : Nat} (h : l.length = m.length) (hk : k < l.length) (ht : l.take k = m.take k) (he : nth l k = nth m k) : l.take (k + 1) = m.take (k + 1) := by
  rw [take_succ_nth l k hk, take_succ_nth m k (by omega), ht, he]
theorem eq_no {l m : List α} {k : Nat} (h : l.length = m.length) (hk : k < l.length) (he : nth l k ≠ nth m k) : l ≠ m := by
  rintro rfl; exact he rfl
omit [Inhabited α] in
theorem eq_end {l m : List α} {k : Nat} (h : l.length = m.length) (hk : ¬ k < l.length) (ht : l.take k = m.take k) : l = m := by
  rwa [List.take_of_length_le (by omega), List.take_of_length_le (by omega)] at ht
end
/-- what is not looked at -/
def longB (s : ByteArray) : Bool := decide (50 < s.size)
def badRow (l : List ByteArray) : Bool := decide (20 < l.length) || l.any longB
def bigB (E : List (Int × Int)) (W : List (List ByteArray)) : Bool :=
  (decide (W.length ≤ 250) && W.any badRow) || decide (250 < W.length) || (decide (60 < E.length) && decide (E.length ≤ 2000)) || decide (2100 < E.length)
theorem any_step {α : Type} [Inhabited α] (f : α → Bool) (l : List α) (k : Nat) (h : k < l.length) (ha : (l.take k).any f = false) (hf : f (nth l k) = false) : (l.take (k + 1)).any f = false := by
  rw [take_succ_nth l k h, List.any_append, ha]; simp [hf]
theorem any_true_at {α : Type} [Inhabited α] (f : α → Bool) (l : List α) (k : Nat) (h : k < l.length) (hf : f (nth l k) = true) : l.any f = true := by
  rw [List.any_eq_true]; rw [nth_eq h] at hf; exact ⟨_, List.getElem_mem h, hf⟩
theorem any_end {α : Type} (f : α → Bool) (l : List α) (k : Nat) (h : ¬ k < l.length) (ha : (l.take k).any f = false) : l.any f = false := by
  rwa [List.take_of_length_le (by omega)] at ha
theorem all_step {α : Type} [Inhabited α] (f : α → Bool) (l : List α) (k : Nat) (h : k < l.length) (ha : (l.take k).all f = true) (hf : f (nth l k) = true) : (l.take (k + 1)).all f = true := by
  rw [take_succ_nth l k h, List.all_append, ha]; simp [hf]
theorem all_end {α : Type} (f : α → Bool) (l : List α) (k : Nat) (h : ¬ k < l.length) (ha : (l.take k).all f = true) : l.all f = true := by
  rwa [List.take_of_length_le (by omega)] at ha
/-- texts that are not too long for a counter -/
def SzW (W : List (List ByteArray)) : Prop := ∀ l ∈ W, ∀ s ∈ l, s.size ≤ 1000000
theorem SzW.at {W : List (List ByteArray)} (h : SzW W) {k j : Nat} (hk : k < W.length) (hj : j < (nth W k).length) : (nth (nth W k) j).size ≤ 1000000 := by
  refine h (nth W k) ?_ _ ?_
  · rw [nth_eq hk]; exact List.getElem_mem hk
  · rw [nth_eq hj]; exact List.getElem_mem hj
theorem checkB_pre {N : Int} {E : List (Int × Int)} {W : List (List ByteArray)} (h : ¬ (1 ≤ N ∧ N ≤ 200 ∧ E.length ≤ 2000 ∧ (W.length : Int) = N)) : checkB N E W = false := by
  unfold checkB
  by_cases h1 : 1 ≤ N <;> by_cases h2 : N ≤ 200 <;> by_cases h3 : E.length ≤ 2000 <;> by_cases h4 : (W.length : Int) = N <;> simp [h1, h2, h3, h4]
  exact absurd ⟨h1, h2, h3, h4⟩ h
theorem checkB_E {N : Int} {E : List (Int × Int)} {W : List (List ByteArray)} {k : Nat} (hk : k < E.length) (h : edgeOk N (nth E k) = false) : checkB N E W = false := by
  unfold checkB; rw [all_false_at (edgeOk N) E k hk h]; simp
theorem checkB_W {N : Int} {E : List (Int × Int)} {W : List (List ByteArray)} {k : Nat} (hk : k < W.length) (h : rowOk (nth W k) = false) : checkB N E W = false := by
  unfold checkB; rw [all_false_at rowOk W k hk h]; simp
theorem checkB_yes {N : Int} {E : List (Int × Int)} {W : List (List ByteArray)} (h1 : 1 ≤ N) (h2 : N ≤ 200) (h3 : E.length ≤ 2000) (h4 : (W.length : Int) = N) (h5 : E.all (edgeOk N) = true) (h6 : W.all rowOk = true) : checkB N E W = true := by
  unfold checkB; rw [h5, h6]; simp [h1, h2, h3, h4]
/-- how many stand ahead -/
def ahead {α : Type} (lt : α → α → Bool) (l : List α) (x : α) : Nat := (l.takeWhile (fun y => lt y x)).length
/-- an element, in its place, if it is not there -/
def putL {α : Type} [DecidableEq α] (lt : α → α → Bool) (l : List α) (x : α) : List α :=
  if l[ahead lt l x]? = some x then l else l.take (ahead lt l x) ++ ([x] ++ l.drop (ahead lt l x))
theorem ahead_le {α : Type} (lt : α → α → Bool) (l : List α) (x : α) : ahead lt l x ≤ l.length := by
  unfold ahead; induction l with
  | nil => simp
  | cons a l ih => rw [List.takeWhile_cons]; split <;> simp; omega
/-- where the search for the place stops -/
theorem ahead_of {α : Type} [Inhabited α] (lt : α → α → Bool) (l : List α) (x : α) (k : Nat) (hk : k ≤ l.length) (ha : (l.take k).all (fun y => lt y x) = true) (hs : k < l.length → lt (nth l k) x = false) : ahead lt l x = k := by
  unfold ahead
  induction l generalizing k with
  | nil => simp at hk; subst hk; rfl
  | cons a l ih =>
    cases k with
    | zero => have := hs (by simp); rw [List.takeWhile_cons]; have e : nth (a :: l) 0 = a := rfl
              rw [e] at this; rw [this]; rfl
    | succ k =>
      simp only [List.take_succ_cons, List.all_cons, Bool.and_eq_true] at ha
      rw [List.takeWhile_cons, ha.1]
      simp only [if_true, List.length_cons]
      have := ih k (by simpa using hk) ha.2 (fun h => hs (by simpa using h))
      omega
theorem putL_same {α : Type} [Inhabited α] [DecidableEq α] {lt : α → α → Bool} {l : List α} {x : α} {k : Nat} (h : ahead lt l x = k) (hk : k < l.length) (he : nth l k = x) : putL lt l x = l := by
  unfold putL; rw [h, if_pos]; rw [List.getElem?_eq_getElem hk, ← nth_eq hk, he]
theorem putL_new {α : Type} [Inhabited α] [DecidableEq α] {lt : α → α → Bool} {l : List α} {x : α} {k : Nat} (h : ahead lt l x = k) (he : k < l.length → nth l k ≠ x) : putL lt l x = l.take k ++ ([x] ++ l.drop k) := by
  unfold putL; rw [h, if_neg]
  intro e
  have hk : k < l.length := by
    rcases Nat.lt_or_ge k l.length with h | h
    · exact h
    · rw [List.getElem?_eq_none h] at e; cases e
  rw [List.getElem?_eq_getElem hk] at e; injection e with e
  exact he hk (by rw [nth_eq hk]; exact e)
theorem putL_len {α : Type} [DecidableEq α] (lt : α → α → Bool) (l : List α) (x : α) : (putL lt l x).length ≤ l.length + 1 := by
  unfold putL; split
  · omega
  · simp; have := ahead_le lt l x; omega
def putAll {α : Type} [DecidableEq α] (lt : α → α → Bool) (l : List α) : List α := l.foldl (putL lt) []
theorem foldl_take_succ {α β : Type} [Inhabited α] (f : β → α → β) (l : List α) (b : β) (k : Nat) (h : k < l.length) : (l.take (k + 1)).foldl f b = f ((l.take k).foldl f b) (nth l k) := by
  rw [take_succ_nth l k h, List.foldl_append]; rfl
theorem foldl_put_len {α : Type} [DecidableEq α] (lt : α → α → Bool) (l : List α) (b : List α) : (l.foldl (putL lt) b).length ≤ b.length + l.length := by
  induction l generalizing b with
  | nil => simp
  | cons a l ih => simp only [List.foldl_cons, List.length_cons]; have := ih (putL lt b a); have := putL_len lt b a; omega
/-- what chapter 2's document makes of a graph -/
def normN (N : Int) (E : List (Int × Int)) (W : List (List ByteArray)) : Int := if checkB N E W then N else 0
def normE (N : Int) (E : List (Int × Int)) (W : List (List ByteArray)) : List (Int × Int) := if checkB N E W then putAll lessE E else []
def normW (N : Int) (E : List (Int × Int)) (W : List (List ByteArray)) : List (List ByteArray) := if checkB N E W then W.map (putAll sLess) else []
def normC (N : Int) (E : List (Int × Int)) (W : List (List ByteArray)) : Int := if checkB N E W then 0 else 20
theorem map_take_succ {α β : Type} [Inhabited α] (f : α → β) (l : List α) (k : Nat) (h : k < l.length) : (l.take (k + 1)).map f = (l.take k).map f ++ [f (nth l k)] := by
  rw [take_succ_nth l k h, List.map_append]; rfl
theorem checkB_parts {N : Int} {E : List (Int × Int)} {W : List (List ByteArray)} (h : checkB N E W = true) : 1 ≤ N ∧ N ≤ 200 ∧ E.length ≤ 2000 ∧ (W.length : Int) = N ∧ E.all (edgeOk N) = true ∧ W.all rowOk = true := by
  unfold checkB at h
  simp only [Bool.and_eq_true, decide_eq_true_eq] at h
  obtain ⟨⟨⟨⟨⟨a, b⟩, c⟩, d⟩, e⟩, f⟩ := h
  exact ⟨a, b, c, d, e, f⟩
theorem rowOk_len {W : List (List ByteArray)} (h : W.all rowOk = true) : ∀ l ∈ W, l.length ≤ 8 := by
  intro l hl
  have := List.all_eq_true.1 h l hl
  unfold rowOk at this
  simp only [Bool.and_eq_true, decide_eq_true_eq] at this
  exact this.2
theorem putAll_len {α : Type} [DecidableEq α] (lt : α → α → Bool) (l : List α) : (putAll lt l).length ≤ l.length := by
  have := foldl_put_len lt l []; simpa [putAll] using this
theorem isB_chk {N : Int} {E : List (Int × Int)} {W : List (List ByteArray)} (h : checkB N E W = false) : isB N E W = false := by unfold isB; rw [h]; rfl
theorem riseB_no {α : Type} [Inhabited α] {lt : α → α → Bool} {l : List α} {k : Nat} (hk : k + 1 < l.length) (h : lt (nth l k) (nth l (k + 1)) = false) : riseB lt l = false := by
  unfold riseB; exact range_all_no _ _ k (by omega) h
theorem riseB_end {α : Type} [Inhabited α] {lt : α → α → Bool} {l : List α} {k : Nat} (hk : ¬ k < l.length) (h : (List.range (k - 1)).all (riseAt lt l) = true) : riseB lt l = true := by
  unfold riseB
  rw [List.all_eq_true] at h ⊢
  intro i hi
  have := List.mem_range.1 hi
  exact h i (List.mem_range.2 (by omega))
theorem isB_E {N : Int} {E : List (Int × Int)} {W : List (List ByteArray)} (h : riseB lessE E = false) : isB N E W = false := by unfold isB; rw [h]; simp
theorem isB_W {N : Int} {E : List (Int × Int)} {W : List (List ByteArray)} {k : Nat} (hk : k < W.length) (h : riseB sLess (nth W k) = false) : isB N E W = false := by
  unfold isB; rw [all_false_at (riseB sLess) W k hk h]; simp
end Go.Proofs.Ytcjkechemjdboaa
