/- Plain facts of chapter 2 that many laws use: what is not looked at bounds what is; rows that are read. -/
import Derived.Test.YtcjkechemjdboaaG9
import Derived.Test.YtcjkechemjdboaaPlain
namespace Go.Proofs.Ytcjkechemjdboaa
open Go Go.RowKit
theorem szW_of_big {E : List (Int × Int)} {W : List (List ByteArray)} (h : bigB E W = false) : SzW W := by
  unfold bigB at h
  simp only [Bool.or_eq_false_iff, Bool.and_eq_false_iff] at h
  obtain ⟨⟨⟨h1, h2⟩, _⟩, _⟩ := h
  have hw : W.length ≤ 250 := by simpa using h2
  have hb : W.any badRow = false := by
    rcases h1 with h1 | h1
    · simp at h1; omega
    · exact h1
  intro l hl s hs
  have h3 := List.any_eq_false.1 hb l hl
  unfold badRow at h3
  simp only [Bool.or_eq_true, not_or, Bool.not_eq_true] at h3
  have h4 := List.any_eq_false.1 h3.2 s hs
  unfold longB at h4
  simp at h4
  omega
theorem lens_of_big {E : List (Int × Int)} {W : List (List ByteArray)} (h : bigB E W = false) : E.length ≤ 2100 ∧ W.length ≤ 250 ∧ ∀ l ∈ W, l.length ≤ 20 := by
  unfold bigB at h
  simp only [Bool.or_eq_false_iff, Bool.and_eq_false_iff] at h
  obtain ⟨⟨⟨h1, h2⟩, _⟩, h4⟩ := h
  have hw : W.length ≤ 250 := by simpa using h2
  refine ⟨by simpa using h4, hw, fun l hl => ?_⟩
  have hb : W.any badRow = false := by
    rcases h1 with h1 | h1
    · simp at h1; omega
    · exact h1
  have h3 := List.any_eq_false.1 hb l hl
  unfold badRow at h3
  simp at h3
  omega
theorem norm_lens (N : Int) (E : List (Int × Int)) (W : List (List ByteArray)) (h1 : E.length ≤ 2100) (h2 : W.length ≤ 250) (h3 : ∀ l ∈ W, l.length ≤ 20) : (normE N E W).length ≤ 2100 ∧ (normW N E W).length ≤ 250 ∧ ∀ l ∈ normW N E W, l.length ≤ 20 := by
  unfold normE normW
  by_cases hc : checkB N E W = true
  · simp only [hc, if_true]
    refine ⟨Nat.le_trans (putAll_len _ _) h1, by rw [List.length_map]; exact h2, fun l hl => ?_⟩
    obtain ⟨l', hl', rfl⟩ := List.mem_map.1 hl
    exact Nat.le_trans (putAll_len _ _) (h3 l' hl')
  · have : checkB N E W = false := by simpa using hc
    simp only [this, Bool.false_eq_true, if_false]
    exact ⟨by simp, by simp, fun l hl => by cases hl⟩
theorem Blk.rd {W : World} {g : Nat} {t : TypeId} {cs : Array Value} (h : Blk W g t cs) {n size : Nat} {xs : List Value} (hx : cs.toList = xs) (hn : xs.length = n * size) (hs : n ≤ 9223372036854775807) : Rd W size (some ⟨g, 0, none⟩) n xs := by
  subst hx
  refine ⟨hn, .inr ⟨_, _, rfl⟩, hs, fun j hj => ?_⟩
  rw [adr_some, Nat.zero_add, h.cell j]
  rw [List.getD_eq_getElem?_getD, Array.getElem?_toList, Array.getElem?_eq_getElem (by simp at hn; omega)]
  rfl
theorem GraphO.rd {w : World} {base : Nat} {v : Value} {N : Int} {E : List (Int × Int)} {W : List (List ByteArray)} (h : GraphO w base v N E W) (h1 : E.length ≤ 9223372036854775807) (h2 : W.length ≤ 9223372036854775807) (h3 : ∀ l ∈ W, l.length ≤ 9223372036854775807) : GraphR w v N E W := by
  obtain ⟨pe, ce, pw, cw, hs, rfl, h5, h6⟩ := h
  exact ⟨pe, _, ce, pw, _, cw, hs, rfl, Rd.of_own h5 h1, own_cap h5, h6.rd h2 h3, own_cap h6.row⟩
theorem alloc3B (w : World) (c1 c2 c3 : Array Value) (t1 t2 t3 : TypeId) : Blk (((w.alloc (.cells c1 t1)).alloc (.cells c2 t2)).alloc (.cells c3 t3)) w.heap.size t1 c1 ∧ Blk (((w.alloc (.cells c1 t1)).alloc (.cells c2 t2)).alloc (.cells c3 t3)) (w.heap.size + 1) t2 c2 ∧
    Blk (((w.alloc (.cells c1 t1)).alloc (.cells c2 t2)).alloc (.cells c3 t3)) (w.heap.size + 1 + 1) t3 c3 ∧ Ext w (((w.alloc (.cells c1 t1)).alloc (.cells c2 t2)).alloc (.cells c3 t3)) := alloc3 _ _ _ _
theorem alloc2B (w : World) (c1 c2 : Array Value) (t1 t2 : TypeId) : Blk ((w.alloc (.cells c1 t1)).alloc (.cells c2 t2)) w.heap.size t1 c1 ∧ Blk ((w.alloc (.cells c1 t1)).alloc (.cells c2 t2)) (w.heap.size + 1) t2 c2 ∧ Ext w ((w.alloc (.cells c1 t1)).alloc (.cells c2 t2)) := alloc2 _ _ _
end Go.Proofs.Ytcjkechemjdboaa
