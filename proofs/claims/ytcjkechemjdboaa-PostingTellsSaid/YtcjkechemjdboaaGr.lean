/- A slice of slices of texts that the call itself made. -/
import Derived.Test.YtcjkechemjdboaaBase
namespace Go.Proofs.Ytcjkechemjdboaa
open Go Go.RowKit
/-- rows of texts of the call's own, the row of headers too -/
structure OwnW (w : World) (base : Nat) (q : Option Addr) (n c : Nat) (hs : List Hd) (wss : List (List ByteArray)) : Prop where
  hn : hs.length = wss.length
  row : w.ownsRow base 35 1 (.slice q n c) n (encH hs)
  each : ∀ j, j < n → w.ownsRow base 9 1 (.slice (nth hs j).p (nth hs j).n (nth hs j).c) (nth hs j).n (encS (nth wss j))
section
variable {w w' : World} {base : Nat} {q : Option Addr} {n c : Nat} {hs : List Hd} {wss : List (List ByteArray)}
theorem OwnW.nil (w : World) (base : Nat) : OwnW w base none 0 0 [] [] := ⟨rfl, World.ownsRow_nil _ _ _ _, fun j hj => by omega⟩
theorem OwnW.len (h : OwnW w base q n c hs wss) : n = wss.length := by
  have := h.row.1; rw [encH_len, h.hn] at this; omega
theorem OwnW.ext (h : OwnW w base q n c hs wss) (he : Ext w w') : OwnW w' base q n c hs wss := ⟨h.hn, he.own h.row, fun j hj => he.own (h.each j hj)⟩
theorem OwnW.set_ (h : OwnW w base q n c hs wss) {g : Nat} {t : TypeId} {cs : Array Value} (hg : Blk w g t cs) (h1 : 35 ≠ t) (h2 : 9 ≠ t) (i : Nat) (u : Value) : OwnW (w.setCell ⟨g, i, none⟩ u) base q n c hs wss :=
  ⟨h.hn, own_set h.row hg h1 i u, fun j hj => own_set (h.each j hj) hg h2 i u⟩
theorem nth_append_left {α : Type} [Inhabited α] (l m : List α) (j : Nat) (h : j < l.length) : nth (l ++ m) j = nth l j := by
  rw [nth_eq (by simp; omega), nth_eq h, List.getElem_append_left h]
theorem nth_append_new {α : Type} [Inhabited α] (l : List α) (x : α) : nth (l ++ [x]) l.length = x := by
  rw [nth_eq (by simp)]; simp
theorem OwnW.push (h : OwnW w base q n c hs wss) {p : Option Addr} {m d : Nat} {l : List ByteArray} (hr : w.ownsRow base 9 1 (.slice p m d) m (encS l)) {q' : Option Addr} {c' : Nat}
    (ho : w'.ownsRow base 35 1 (.slice q' (n + 1) c') (n + 1) (encH hs ++ [.slice p m d])) (hg : w.grownBy w' (blkOf q)) : OwnW w' base q' (n + 1) c' (hs ++ [⟨p, m, d⟩]) (wss ++ [l]) := by
  have hl := h.len
  refine ⟨by simp [h.hn], by rw [show encH (hs ++ [⟨p, m, d⟩]) = encH hs ++ [.slice p m d] from by simp [encH, Hd.v]]; exact ho, fun j hj => ?_⟩
  by_cases hjn : j < n
  · rw [nth_append_left _ _ _ (by rw [h.hn]; omega), nth_append_left _ _ _ (by omega)]
    exact own_grown (h.each j hjn) hg (own_own_ne h.row (h.each j hjn) (by decide))
  · have e1 : j = wss.length := by omega
    have e2 : j = hs.length := by rw [h.hn]; exact e1
    have a1 : nth (wss ++ [l]) j = l := by rw [e1]; exact nth_append_new _ _
    have a2 : nth (hs ++ [(⟨p, m, d⟩ : Hd)]) j = ⟨p, m, d⟩ := by rw [e2]; exact nth_append_new _ _
    rw [a1, a2]
    exact own_grown hr hg (own_own_ne h.row hr (by decide))
theorem OwnW.push1 (h : OwnW w base q n c hs wss) {p : Option Addr} {m d : Nat} {l : List ByteArray} (hr : w.ownsRow base 9 1 (.slice p m d) m (encS l)) {q' : Option Addr} {c' : Nat} {o : Obj}
    (ho : w'.ownsRow base 35 1 (.slice q' (n + 1) c') (n + 1) (encH hs ++ [.slice p m d])) (hg : (w.alloc o).grownBy w' (blkOf q)) : OwnW w' base q' (n + 1) c' (hs ++ [⟨p, m, d⟩]) (wss ++ [l]) :=
  OwnW.push (h.ext (Ext.alloc (Below.refl _ _) o)) (hr.alloc o) ho hg
theorem OwnW.rd (h : OwnW w base q n c hs wss) (hs1 : n ≤ 9223372036854775807) (hs2 : ∀ l ∈ wss, l.length ≤ 9223372036854775807) : RdW w q n hs wss := by
  refine ⟨h.hn, Rd.of_own h.row hs1, fun j hj => Rd.of_own (h.each j hj) ?_⟩
  have := (h.each j hj).1
  rw [encS_len, Nat.mul_one] at this
  rw [← this]
  have hl := h.len
  exact hs2 _ (by rw [nth_eq (by omega)]; exact List.getElem_mem _)
end
end Go.Proofs.Ytcjkechemjdboaa
