import Derived.Test.YtcjkechemjdboaaR8
import Derived.Test.YtcjkechemjdboaaR5
namespace Go.Proofs.Ytcjkechemjdboaa
open Go Go.RowKit
/-- what the reference makes: a graph that is read, in memory from a block on -/
def GraphN (w : World) (base : Nat) (v : Value) (N : Int) (E : List (Int × Int)) (W : List (List ByteArray)) : Prop :=
  ∃ pe ne ce pw nw cw hs, v = .agg #[.int .i64 N, .slice pe ne ce, .slice pw nw cw] ∧ Rd w 2 pe ne (encE E) ∧ ne ≤ ce ∧ RdW w pw nw hs W ∧ nw ≤ cw ∧
    (0 < ne → base ≤ (adr pe 0).block) ∧ (0 < nw → base ≤ (adr pw 0).block) ∧ (∀ j, j < nw → 0 < (nth hs j).n → base ≤ (adr (nth hs j).p 0).block)
theorem GraphN.toR {w : World} {base : Nat} {v : Value} {N : Int} {E : List (Int × Int)} {W : List (List ByteArray)} (h : GraphN w base v N E W) : GraphR w v N E W := by
  obtain ⟨pe, ne, ce, pw, nw, cw, hs, h1, h2, h3, h4, h5, _⟩ := h
  exact ⟨pe, ne, ce, pw, nw, cw, hs, h1, h2, h3, h4, h5⟩
theorem GraphN.set {w : World} {base : Nat} {v : Value} {N : Int} {E : List (Int × Int)} {W : List (List ByteArray)} (h : GraphN w base v N E W) {b : Nat} (hb : b < base) (i : Nat) (u : Value) : GraphN (w.setCell ⟨b, i, none⟩ u) base v N E W := by
  obtain ⟨pe, ne, ce, pw, nw, cw, hs, h1, h2, h3, h4, h5, f1, f2, f3⟩ := h
  exact ⟨pe, ne, ce, pw, nw, cw, hs, h1, h2.set_ (fun h => by have := f1 h; omega) i u, h3, ⟨h4.hn, h4.row.set_ (fun h => by have := f2 h; omega) i u, fun j hj => (h4.each j hj).set_ (fun h => by have := f3 j hj h; omega) i u⟩, h5, f1, f2, f3⟩
theorem GraphN.mono {w : World} {base b : Nat} {v : Value} {N : Int} {E : List (Int × Int)} {W : List (List ByteArray)} (h : GraphN w base v N E W) (hb : b ≤ base) : GraphN w b v N E W := by
  obtain ⟨pe, ne, ce, pw, nw, cw, hs, h1, h2, h3, h4, h5, f1, f2, f3⟩ := h
  exact ⟨pe, ne, ce, pw, nw, cw, hs, h1, h2, h3, h4, h5, fun h => Nat.le_trans hb (f1 h), fun h => Nat.le_trans hb (f2 h), fun j hj h => Nat.le_trans hb (f3 j hj h)⟩
theorem GraphN.nil (w : World) (base : Nat) : GraphN w base (.agg #[.int .i64 0, .slice none 0 0, .slice none 0 0]) 0 [] [] :=
  ⟨none, 0, 0, none, 0, 0, [], rfl, Rd.nil _ _ _, Nat.le_refl _, ⟨rfl, Rd.nil _ _ _, fun j hj => by omega⟩, Nat.le_refl _, fun h => by omega, fun h => by omega, fun j hj => by omega⟩
end Go.Proofs.Ytcjkechemjdboaa
