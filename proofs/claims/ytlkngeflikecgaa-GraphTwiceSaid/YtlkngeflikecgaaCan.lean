/- Cells of a row of the call's own that may be laid anew: what stays when they are. -/
import Derived.Test.YtlkngeflikecgaaG11
namespace Go.Proofs.Ytlkngeflikecgaa
open Go Go.RowKit
/-- a row of cells in a block of its own, at or behind 'base': what the cells hold is not told -/
def Can (w : World) (base : Nat) (t : TypeId) (q : Option Addr) (n : Nat) : Prop :=
  n = 0 ∨ ∃ g cur, q = some ⟨g, 0, none⟩ ∧ base ≤ g ∧ Blk w g t cur ∧ n ≤ cur.size
section
variable {w w' : World} {base size n c m : Nat} {t : TypeId} {q : Option Addr} {xs : List Value}
theorem Can.of_own (h : w.ownsRow base t size (.slice q n c) n xs) : Can w base t q (n * size) := by
  rcases h.2 with ⟨_, h2⟩ | ⟨g, cap, cur, h1, hg, hh, hn, _, hs, _⟩
  · exact .inl (by rw [h2, Nat.zero_mul])
  · injection h1 with h1
    exact .inr ⟨g, cur, h1, hg, hh, by rw [hs]; exact Nat.mul_le_mul_right _ hn⟩
theorem Can.ext (h : Can w base t q m) (he : Ext w w') : Can w' base t q m := by
  rcases h with h | ⟨g, cur, h1, h2, h3, h4⟩
  · exact .inl h
  · exact .inr ⟨g, cur, h1, h2, h3.ext he, h4⟩
/-- one cell of it -/
theorem Can.at (h : Can w base t q m) {k : Nat} (hk : k < m) : ∃ g cur u, q = some ⟨g, 0, none⟩ ∧ base ≤ g ∧ Blk w g t cur ∧ adr q k = ⟨g, k, none⟩ ∧ w.cell? (adr q k) = some u ∧ w.frozen? (adr q k) = false := by
  rcases h with h | ⟨g, cur, h1, h2, h3, h4⟩
  · omega
  · subst h1
    have e : adr (some ⟨g, 0, none⟩) k = ⟨g, k, none⟩ := by rw [adr_some, Nat.zero_add]
    refine ⟨g, cur, cur[k]'(by omega), rfl, h2, h3, e, ?_, ?_⟩
    · rw [e, h3.cell, Array.getElem?_eq_getElem (by omega)]
    · rw [e]; exact h3.frozen k
/-- a store anywhere leaves it a row of cells -/
theorem Can.set_ (h : Can w base t q m) (g i : Nat) (v : Value) : Can (w.setCell ⟨g, i, none⟩ v) base t q m := by
  rcases h with h | ⟨g', cur, h1, h2, h3, h4⟩
  · exact .inl h
  · by_cases e : g' = g
    · subst e
      exact .inr ⟨g', _, h1, h2, h3.set_ i v, by rw [Array.size_setIfInBounds]; exact h4⟩
    · exact .inr ⟨g', cur, h1, h2, h3.far e v, h4⟩
theorem Blk.ne {g g2 : Nat} {t t2 : TypeId} {cs cs2 : Array Value} (h : Blk w g t cs) (h2 : Blk w g2 t2 cs2) (hne : t ≠ t2) : g ≠ g2 := by
  rintro rfl
  unfold Blk at h h2
  rw [h] at h2
  injection h2 with h2
  injection h2 with _ ht
  exact hne ht
theorem Can.ne (h : Can w base t q m) (hm : 0 < m) {g : Nat} {t2 : TypeId} {cs : Array Value} (h2 : Blk w g t2 cs) (hne : t ≠ t2) : (adr q 0).block ≠ g := by
  obtain ⟨g', cur, u, h3, _, h4, h5, _⟩ := h.at hm
  rw [h5]
  exact h4.ne h2 hne
/-- what is smudged: below 'base' all stays; the row of headers stays; the box stays -/
structure Smudge (w0 w : World) (base b : Nat) (q : Option Addr) (n : Nat) (qh : Option Addr) (nw ch : Nat) (hs : List Hd) (cs : Array Value) : Prop where
  below : Below base w0 w
  ce : Can w base 34 q (n * 2)
  row : w.ownsRow base 35 1 (.slice qh nw ch) nw (encH hs)
  each : ∀ j, j < nw → Can w base 9 (nth hs j).p (nth hs j).n
  box : Blk w b 25 cs
theorem Smudge.set_ {w0 : World} {b nw ch g i : Nat} {qh : Option Addr} {hs : List Hd} {cs : Array Value} {t2 : TypeId} {cur : Array Value} (h : Smudge w0 w base b q n qh nw ch hs cs) (hg : Blk w g t2 cur) (hb : base ≤ g) (h1 : 35 ≠ t2) (h2 : 25 ≠ t2) (v : Value) :
    Smudge w0 (w.setCell ⟨g, i, none⟩ v) base b q n qh nw ch hs cs :=
  ⟨h.below.setCell hb v, h.ce.set_ g i v, own_set h.row hg h1 i v, fun j hj => (h.each j hj).set_ g i v, h.box.far (h.box.ne hg h2) v⟩
theorem Can.slp {k : Nat} (h : Can w base t q (n * (k + 1))) : SlP q n := by
  rcases h with h | ⟨g, cur, h1, _⟩
  · rcases Nat.mul_eq_zero.1 h with h | h
    · exact .inl h
    · omega
  · exact .inr ⟨g, 0, h1⟩
theorem Rd.over {a w5 w6 : World} {B : Nat} {p : Option Addr} (h : Rd a size p n xs) (h1 : Ext a w5) (h2 : Below B w5 w6) (hB : a.heap.size ≤ B) : Rd w6 size p n xs :=
  (h.ext h1).below h2 fun hn => Nat.lt_of_lt_of_le (h.lt hn) hB
theorem RdW.over {a w5 w6 : World} {B : Nat} {p : Option Addr} {hs : List Hd} {W : List (List ByteArray)} (h : RdW a p n hs W) (h1 : Ext a w5) (h2 : Below B w5 w6) (hB : a.heap.size ≤ B) : RdW w6 p n hs W :=
  ⟨h.hn, h.row.over h1 h2 hB, fun j hj => (h.each j hj).over h1 h2 hB⟩
theorem Blk.over {a w6 : World} {B g : Nat} {cs : Array Value} (h : Blk a g t cs) (h2 : Below B a w6) (hB : g < B) : Blk w6 g t cs := (h2.block g hB).trans h
end
end Go.Proofs.Ytlkngeflikecgaa
