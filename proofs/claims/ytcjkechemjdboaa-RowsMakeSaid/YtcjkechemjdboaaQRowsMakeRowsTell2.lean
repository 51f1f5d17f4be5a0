/- Texts of this claim, one behind the other: Gr, R6, G8, Pst5, G1, Chk5, R7, R8, R5, R9, RT, Plain2, FndA, FndB, Ref5, Spec4, Rng, It4, It4b, Half4, Half4b, Chk4, Chk4b, Out4, Eq4, PlainR, Laid4. -/
import Derived.Laws.EntriesVeiled
import Derived.RangeFuncNested
import Derived.RangeFuncBound
import Derived.RangeFuncCalls
import Derived.RangeFuncLeaves
import Derived.Sort.QuietThIn
import Derived.OwnWalkIn
import Derived.TacticsInMore
import Derived.LoopNIn
import Derived.LoopIn
import Derived.Test.YtcjkechemjdboaaLay
import Derived.Shelf.Abstract
import Derived.WalkKit
import Derived.OwnWalk
import Derived.Test.YtcjkechemjdboaaQRowsMakeRowsTell1
/- A slice of slices of texts that the call itself made. -/
namespace Go.Proofs.Ytcjkechemjdboaa
open Go Go.RowKit
/-- rows of texts of the call's own, the row of headers too -/
structure OwnW (w : World) (base : Nat) (q : Option Addr) (n c : Nat) (hs : List Hd) (wss : List (List ByteArray)) : Prop where
  hn : hs.length = wss.length
  row : w.ownsRow base 35 1 (.slice q n c) n (encH hs)
  each : ∀ j, j < n → w.ownsRow base 9 1 (.slice (nth hs j).p (nth hs j).n (nth hs j).c) (nth hs j).n (encS (nth wss j))
section
variable {w w' : World} {base : Nat} {q : Option Addr} {n c : Nat} {hs : List Hd} {wss : List (List ByteArray)}
theorem OwnW.nil (w : World) (base : Nat) : OwnW w base none 0 0 [] [] := ⟨rfl, World.ownsRow_nil _ _ _ _, fun j hj => by omega⟩
theorem OwnW.len (h : OwnW w base q n c hs wss) : n = wss.length := by
  have := h.row.1; rw [encH_len, h.hn] at this; omega
theorem OwnW.ext (h : OwnW w base q n c hs wss) (he : Ext w w') : OwnW w' base q n c hs wss := ⟨h.hn, he.own h.row, fun j hj => he.own (h.each j hj)⟩
theorem OwnW.set_ (h : OwnW w base q n c hs wss) {g : Nat} {t : TypeId} {cs : Array Value} (hg : Blk w g t cs) (h1 : 35 ≠ t) (h2 : 9 ≠ t) (i : Nat) (u : Value) : OwnW (w.setCell ⟨g, i, none⟩ u) base q n c hs wss :=
  ⟨h.hn, own_set h.row hg h1 i u, fun j hj => own_set (h.each j hj) hg h2 i u⟩
theorem nth_append_left {α : Type} [Inhabited α] (l m : List α) (j : Nat) (h : j < l.length) : nth (l ++ m) j = nth l j := by
  rw [nth_eq (by simp; omega), nth_eq h, List.getElem_append_left h]
theorem nth_append_new {α : Type} [Inhabited α] (l : List α) (x : α) : nth (l ++ [x]) l.length = x := by
  rw [nth_eq (by simp)]; simp
theorem OwnW.push (h : OwnW w base q n c hs wss) {p : Option Addr} {m d : Nat} {l : List ByteArray} (hr : w.ownsRow base 9 1 (.slice p m d) m (encS l)) {q' : Option Addr} {c' : Nat}
    (ho : w'.ownsRow base 35 1 (.slice q' (n + 1) c') (n + 1) (encH hs ++ [.slice p m d])) (hg : w.grownBy w' (blkOf q)) : OwnW w' base q' (n + 1) c' (hs ++ [⟨p, m, d⟩]) (wss ++ [l]) := by
  have hl := h.len
  refine ⟨by simp [h.hn], by rw [show encH (hs ++ [⟨p, m, d⟩]) = encH hs ++ [.slice p m d] from by simp [encH, Hd.v]]; exact ho, fun j hj => ?_⟩
  by_cases hjn : j < n
  · rw [nth_append_left _ _ _ (by rw [h.hn]; omega), nth_append_left _ _ _ (by omega)]
    exact own_grown (h.each j hjn) hg (own_own_ne h.row (h.each j hjn) (by decide))
  · have e1 : j = wss.length := by omega
    have e2 : j = hs.length := by rw [h.hn]; exact e1
    have a1 : nth (wss ++ [l]) j = l := by rw [e1]; exact nth_append_new _ _
    have a2 : nth (hs ++ [(⟨p, m, d⟩ : Hd)]) j = ⟨p, m, d⟩ := by rw [e2]; exact nth_append_new _ _
    rw [a1, a2]
    exact own_grown hr hg (own_own_ne h.row hr (by decide))
theorem OwnW.push1 (h : OwnW w base q n c hs wss) {p : Option Addr} {m d : Nat} {l : List ByteArray} (hr : w.ownsRow base 9 1 (.slice p m d) m (encS l)) {q' : Option Addr} {c' : Nat} {o : Obj}
    (ho : w'.ownsRow base 35 1 (.slice q' (n + 1) c') (n + 1) (encH hs ++ [.slice p m d])) (hg : (w.alloc o).grownBy w' (blkOf q)) : OwnW w' base q' (n + 1) c' (hs ++ [⟨p, m, d⟩]) (wss ++ [l]) :=
  OwnW.push (h.ext (Ext.alloc (Below.refl _ _) o)) (hr.alloc o) ho hg
theorem OwnW.rd (h : OwnW w base q n c hs wss) (hs1 : n ≤ 9223372036854775807) (hs2 : ∀ l ∈ wss, l.length ≤ 9223372036854775807) : RdW w q n hs wss := by
  refine ⟨h.hn, Rd.of_own h.row hs1, fun j hj => Rd.of_own (h.each j hj) ?_⟩
  have := (h.each j hj).1
  rw [encS_len, Nat.mul_one] at this
  rw [← this]
  have hl := h.len
  exact hs2 _ (by rw [nth_eq (by omega)]; exact List.getElem_mem _)
end
end Go.Proofs.Ytcjkechemjdboaa
namespace Go.Proofs.Ytcjkechemjdboaa
open Go Go.RowKit
attribute [local go_sem ↓] eqEdge neqEdge guardEdge
theorem inf34 : (Try.prog.info? 71).map (fun i => (i.zero, i.size, i.bytes)) = some (some (.agg #[.int .i64 0, .int .i64 0]), 2, 16) := by kernel_rfl
end Go.Proofs.Ytcjkechemjdboaa
namespace Go.Proofs.Ytcjkechemjdboaa
open Go Go.RowKit Go.Shelf Go.Lib Go.Sort
set_option maxRecDepth 100000 in
theorem CloneE (p : Option Addr) (n c : Nat) (l : List (Int × Int)) (w : World) (hl : Rd w 2 p n (encE l)) (hn : n ≤ 100000) :
    Calls Try.prog 85 #[.slice p n c] w fun e w' => ∃ q c', e = .returned (.slice q n c') ∧ w'.ownsRow w.heap.size 71 2 (.slice q n c') n (encE l) ∧ Ext w w' := by
  obtain ⟨i0, hi0, hz0, hz1, hz2⟩ := info_parts inf34
  have hp := hl.ptr
  cases p with
  | none =>
    have h0 : n = 0 := by rcases hp with h | ⟨_, _, h⟩; exact h; cases h
    subst h0
    have hnil : encE l = [] := List.eq_nil_of_length_eq_zero (by have := hl.len; simpa using this)
    rw [hnil]
    clear hl hp hnil
    have hr := fun W => Lib.run_eql_slice_nil (P := Try.prog) W 22 71 none 0 c 0 0 Try.underlying22
    go_enter Try.func85, Try.ntmps85
    go_wp2
    go_ret
    exact ⟨none, 0, rfl, World.ownsRow_nil _ _ _ _, Below.refl _ _⟩
  | some ad =>
    have hr := fun W => Lib.run_eql_slice_nil (P := Try.prog) W 22 71 (some ad) n c 0 0 Try.underlying22
    have HL := Lib.hid hl; clear hl hp
    go_enter Try.func85, Try.ntmps85
    go_wp2_with (at_builtin; refine wpList_append_rd rfl _ _ _ rfl w.heap.size 71 i0 _ 2 16 Try.underlying22 hi0 hz0 hz1 hz2 rfl (by omega) (some ⟨w.heap.size, 0, none⟩) 0 0 [] rfl (World.ownsRow_made w #[] 0 (Nat.le_refl _) (by simp [maxLen]) rfl) (some ad) n c (encE l) rfl (HL.out.ext (Ext.alloc (Below.refl _ _) _)) (one_encE l) (by omega) (by omega) (by simp) ?_; intro q' c' w1 hown hg hat hb)
    go_ret
    simp only [Nat.zero_add, List.nil_append] at hown
    exact ⟨q', c', rfl, hown, Below.trans ((Below.refl _ _).alloc (Nat.le_refl _) _) hb⟩
set_option maxRecDepth 100000 in
theorem CloneS (p : Option Addr) (n c : Nat) (l : List ByteArray) (w : World) (hl : Rd w 1 p n (encS l)) (hn : n ≤ 100000) :
    Calls Try.prog 114 #[.slice p n c] w fun e w' => ∃ q c', e = .returned (.slice q n c') ∧ w'.ownsRow w.heap.size 9 1 (.slice q n c') n (encS l) ∧ Ext w w' := by
  obtain ⟨i0, hi0, hz0, hz1, hz2⟩ := info_parts inf9
  have hp := hl.ptr
  cases p with
  | none =>
    have h0 : n = 0 := by rcases hp with h | ⟨_, _, h⟩; exact h; cases h
    subst h0
    have hnil : encS l = [] := List.eq_nil_of_length_eq_zero (by have := hl.len; simpa using this)
    rw [hnil]
    clear hl hp hnil
    have hr := fun W => Lib.run_eql_slice_nil (P := Try.prog) W 35 9 none 0 c 0 0 Try.underlying35
    go_enter Try.func114, Try.ntmps114
    go_wp2
    go_ret
    exact ⟨none, 0, rfl, World.ownsRow_nil _ _ _ _, Below.refl _ _⟩
  | some ad =>
    have hr := fun W => Lib.run_eql_slice_nil (P := Try.prog) W 35 9 (some ad) n c 0 0 Try.underlying35
    have HL := Lib.hid hl; clear hl hp
    go_enter Try.func114, Try.ntmps114
    go_wp2_with (at_builtin; refine wpList_append_rd rfl _ _ _ rfl w.heap.size 9 i0 _ 1 16 Try.underlying35 hi0 hz0 hz1 hz2 rfl (by omega) (some ⟨w.heap.size, 0, none⟩) 0 0 [] rfl (World.ownsRow_made w #[] 0 (Nat.le_refl _) (by simp [maxLen]) rfl) (some ad) n c (encS l) rfl (HL.out.ext (Ext.alloc (Below.refl _ _) _)) (one_encS l) (by omega) (by omega) (by simp) ?_; intro q' c' w1 hown hg hat hb)
    go_ret
    simp only [Nat.zero_add, List.nil_append] at hown
    exact ⟨q', c', rfl, hown, Below.trans ((Below.refl _ _).alloc (Nat.le_refl _) _) hb⟩
set_option maxRecDepth 100000 in
/-- elements that rise, each once -/
theorem OnceE (p : Option Addr) (n c : Nat) (l : List (Int × Int)) (w : World) (hl : Rd w 2 p n (encE l)) (hn : n ≤ 100000) :
    Calls Try.prog 81 #[.slice p n c, .agg #[.func (.func 111) #[] #[]]] w fun e w' => ∃ q c', e = .returned (.slice q (dedup (sortBy lessE l)).length c') ∧ w'.ownsRow w.heap.size 71 2 (.slice q (dedup (sortBy lessE l)).length c') (dedup (sortBy lessE l)).length (encE (dedup (sortBy lessE l))) ∧ Ext w w' := by
  have HL := Lib.hid hl; clear hl
  go_enter Try.func81, Try.ntmps81
  go_wp2_with (first
    | (go_at_call 85; go_must ((refine (CloneE p n c l _ (HL.out.ext (Ext.alloc (Below.refl _ _) _)) hn).mono ?_; rintro e w1 ⟨q, c1, rfl, own, hb1⟩; have O1 := Lib.hid own; have B1 := Lib.hid hb1; have x0 := Ext.cell hb1 (cellnew0 _ _ _ _); clear own hb1)))
    | (go_at_call 109; have _t := O1; go_must ((refine (SortE _ q n c1 l _ O1.out (Nat.le_trans hn (by omega)) B1.out.size).mono ?_; rintro e w2 ⟨rfl, own, hgr, hb2⟩; have O2 := Lib.hid own; have B2 := Lib.hid hb2; clear own hgr hb2)))
    | (go_at_call 110; have _t := O2; go_must ((refine (CompactE _ q n c1 _ _ O2.out hn (Nat.le_trans B1.out.size B2.out.size)).mono ?_; rintro e w3 ⟨rfl, own, hgr, hb3⟩; have O3 := Lib.hid own; have B3 := Lib.hid hb3; clear own hgr hb3))))
  go_ret
  refine ⟨q, c1, rfl, own_base O3.out (by simp), ?_⟩
  have h1 := Below.trans (Below.trans B1.out B2.out) B3.out
  exact Below.trans ((Below.refl w.heap.size w).alloc (Nat.le_refl _) _) (h1.mono (by simp))
set_option maxRecDepth 100000 in
/-- elements that rise, each once -/
theorem OnceS (p : Option Addr) (n c : Nat) (l : List ByteArray) (w : World) (hl : Rd w 1 p n (encS l)) (hn : n ≤ 100000) :
    Calls Try.prog 83 #[.slice p n c, .agg #[.func (.func 117) #[] #[]]] w fun e w' => ∃ q c', e = .returned (.slice q (dedup (sortBy sLess l)).length c') ∧ w'.ownsRow w.heap.size 9 1 (.slice q (dedup (sortBy sLess l)).length c') (dedup (sortBy sLess l)).length (encS (dedup (sortBy sLess l))) ∧ Ext w w' := by
  have HL := Lib.hid hl; clear hl
  go_enter Try.func83, Try.ntmps83
  go_wp2_with (first
    | (go_at_call 114; go_must ((refine (CloneS p n c l _ (HL.out.ext (Ext.alloc (Below.refl _ _) _)) hn).mono ?_; rintro e w1 ⟨q, c1, rfl, own, hb1⟩; have O1 := Lib.hid own; have B1 := Lib.hid hb1; have x0 := Ext.cell hb1 (cellnew0 _ _ _ _); clear own hb1)))
    | (go_at_call 115; have _t := O1; go_must ((refine (SortS _ q n c1 l _ O1.out (Nat.le_trans hn (by omega)) B1.out.size).mono ?_; rintro e w2 ⟨rfl, own, hgr, hb2⟩; have O2 := Lib.hid own; have B2 := Lib.hid hb2; clear own hgr hb2)))
    | (go_at_call 116; have _t := O2; go_must ((refine (CompactSC _ q n c1 _ _ O2.out (Nat.le_trans hn (by omega)) (Nat.le_trans B1.out.size B2.out.size)).mono ?_; rintro e w3 ⟨rfl, own, hgr, hb3⟩; have O3 := Lib.hid own; have B3 := Lib.hid hb3; clear own hgr hb3))))
  go_ret
  refine ⟨q, c1, rfl, own_base O3.out (by simp), ?_⟩
  have h1 := Below.trans (Below.trans B1.out B2.out) B3.out
  exact Below.trans ((Below.refl w.heap.size w).alloc (Nat.le_refl _) _) (h1.mono (by simp))
theorem EdgesG (w : World) : Calls Try.prog 82 #[] w fun e w' => e = .returned (.agg #[.func (.func 111) #[] #[]]) ∧ Ext w w' := by
  go_enter Try.func82, Try.ntmps82
  go_wp2
  exact bodyPost_ret (v := .agg #[.func (.func 111) #[] #[]]) (by simp [results, Try.results82, go_sem, Try.sizeOf93, Try.isAgg93]) rfl ⟨rfl, (Below.refl _ _).alloc (Nat.le_refl _) _⟩
theorem WordsG (w : World) : Calls Try.prog 84 #[] w fun e w' => e = .returned (.agg #[.func (.func 117) #[] #[]]) ∧ Ext w w' := by
  go_enter Try.func84, Try.ntmps84
  go_wp2
  exact bodyPost_ret (v := .agg #[.func (.func 117) #[] #[]]) (by simp [results, Try.results84, go_sem, Try.sizeOf98, Try.isAgg98]) rfl ⟨rfl, (Below.refl _ _).alloc (Nat.le_refl _) _⟩
end Go.Proofs.Ytcjkechemjdboaa
/- Rows of postings that are read; cloning numbers; the postings of a word. -/
namespace Go.Proofs.Ytcjkechemjdboaa
open Go Go.RowKit Go.Maps
abbrev Po := ByteArray × List Int
/-- a slice of postings reads L -/
structure RdP (w : World) (p : Option Addr) (n : Nat) (hs : List Hd) (L : List Po) : Prop where
  hn : n = L.length
  ptr : SlP p n
  small : n ≤ 9223372036854775807
  c1 : ∀ k, k < n → w.cell? (adr p (k * 2)) = some (.string (nth L k).1)
  c2 : ∀ k, k < n → w.cell? (adr p (k * 2 + 1)) = some (.slice (nth hs k).p (nth hs k).n (nth hs k).c)
  each : ∀ k, k < n → Rd w 1 (nth hs k).p (nth hs k).n (encI (nth L k).2)
theorem RdP.ext {w w' : World} {p : Option Addr} {n : Nat} {hs : List Hd} {L : List Po} (h : RdP w p n hs L) (he : Ext w w') : RdP w' p n hs L :=
  ⟨h.hn, h.ptr, h.small, fun k hk => he.cell (h.c1 k hk), fun k hk => he.cell (h.c2 k hk), fun k hk => (h.each k hk).ext he⟩
/-- all numbers are the machine's, and not too many -/
def PoOk (L : List Po) : Prop := ∀ p ∈ L, p.2.length ≤ 1000 ∧ ∀ x ∈ p.2, I64 x
theorem PoOk.at {L : List Po} (h : PoOk L) {k : Nat} (hk : k < L.length) : (nth L k).2.length ≤ 1000 ∧ ∀ x ∈ (nth L k).2, I64 x := h _ (by rw [nth_eq hk]; exact List.getElem_mem _)
/-- the places of a word -/
def findL : List Po → ByteArray → List Int
  | [], _ => []
  | p :: L, s => if p.1 = s then p.2 else findL L s
theorem findL_drop {L : List Po} {s : ByteArray} : ∀ (k : Nat), (∀ j, j < k → (nth L j).1 ≠ s) → k ≤ L.length → findL L s = findL (L.drop k) s := by
  induction L with
  | nil => intro k _ _; simp
  | cons p L ih =>
    intro k h hk
    cases k with
    | zero => rfl
    | succ k =>
      have h0 : p.1 ≠ s := h 0 (by omega)
      rw [List.drop_succ_cons, findL, if_neg h0]
      exact ih k (fun j hj => h (j + 1) (by omega)) (by simpa using hk)
theorem findL_at {L : List Po} {s : ByteArray} {k : Nat} (h : ∀ j, j < k → (nth L j).1 ≠ s) (hk : k < L.length) (he : (nth L k).1 = s) : findL L s = (nth L k).2 := by
  rw [findL_drop k h (by omega), drop_nth L k hk, findL, if_pos he]
theorem findL_no {L : List Po} {s : ByteArray} {k : Nat} (h : ∀ j, j < k → (nth L j).1 ≠ s) (hk : ¬ k < L.length) (hk2 : k ≤ L.length) : findL L s = [] := by
  rw [findL_drop k h hk2, List.drop_of_length_le (by omega), findL]
theorem findL_ok {L : List Po} (h : PoOk L) (s : ByteArray) : (findL L s).length ≤ 1000 ∧ ∀ x ∈ findL L s, I64 x := by
  induction L with
  | nil => exact ⟨by simp [findL], fun x hx => by cases hx⟩
  | cons p L ih =>
    unfold findL
    split
    · exact h p (by simp)
    · exact ih fun q hq => h q (by simp [hq])
theorem Sep.of_own {w w' : World} {e : TypeId} {size : Nat} {q : Option Addr} {n c : Nat} {xs : List Value} (he : Ext w w') (ho : w'.ownsRow w.heap.size e size (.slice q n c) n xs) : Sep w w' [.own e size q n c xs] :=
  (Sep.start w).fresh he ho (Nat.le_refl _)
theorem CloneI (p : Option Addr) (n c : Nat) (l : List Int) (w : World) (hl : Rd w 1 p n (encI l)) (hn : n ≤ 100000) :
    Calls Try.prog 68 #[.slice p n c] w fun e w' => ∃ q c', e = .returned (.slice q n c') ∧ Sep w w' [.own 3 1 q n c' (encI l)] := by
  obtain ⟨i0, hi0, hz0, hz1, hz2⟩ := info_parts infI
  have hp := hl.ptr
  cases p with
  | none =>
    have h0 : n = 0 := by rcases hp with h | ⟨_, _, h⟩; exact h; cases h
    subst h0
    have hnil : encI l = [] := List.eq_nil_of_length_eq_zero (by have := hl.len; simpa using this)
    rw [hnil]
    clear hl hp hnil
    have hr := fun W => Lib.run_eql_slice_nil (P := Try.prog) W 38 3 none 0 c 0 0 Try.underlying38
    go_enter Try.func68, Try.ntmps68
    go_wp2
    go_ret
    exact ⟨none, 0, rfl, (Sep.start w).nilrow _ _⟩
  | some ad =>
    have hr := fun W => Lib.run_eql_slice_nil (P := Try.prog) W 38 3 (some ad) n c 0 0 Try.underlying38
    have HL := Lib.hid hl; clear hl hp
    go_enter Try.func68, Try.ntmps68
    go_wp2_with (at_builtin; refine wpList_append_rd rfl _ _ _ rfl w.heap.size 3 i0 _ 1 8 Try.underlying38 hi0 hz0 hz1 hz2 rfl (by omega) (some ⟨w.heap.size, 0, none⟩) 0 0 [] rfl (World.ownsRow_made w #[] 0 (Nat.le_refl _) (by simp [maxLen]) rfl) (some ad) n c (encI l) rfl (HL.out.ext (Ext.alloc (Below.refl _ _) _)) (one_encI l) (by omega) (by omega) (by simp) ?_; intro q' c' w1 hown hg hat hb)
    go_ret
    simp only [Nat.zero_add, List.nil_append] at hown
    exact ⟨q', c', rfl, Sep.of_own (Below.trans ((Below.refl _ _).alloc (Nat.le_refl _) _) hb) hown⟩
theorem OwnI01 (p : Option Addr) (n c : Nat) (l : List Int) (w : World) (hl : Rd w 1 p n (encI l)) (hn : n ≤ 1000000) :
    Calls Try.prog 66 #[.slice p n c] w fun e w' => ∃ q c', e = .returned (.slice q n c') ∧ Sep w w' [.own 3 1 q n c' (encI l)] := by
  obtain ⟨i0, hi0, hz0, hz1, hz2⟩ := info_parts infI
  have HL := Lib.hid hl; clear hl
  have S0 := Lib.hid ((Sep.start w).nilrow 3 1)
  go_enter Try.func66, Try.ntmps66
  go_wp2_with (at_builtin; go_must (refine wpList_append_sep rfl _ _ _ rfl 3 i0 _ 1 8 Try.underlying38 hi0 hz0 hz1 hz2 rfl (by omega) S0.out 0 none 0 0 [] rfl rfl p n c (encI l) rfl HL.out (one_encI l) (by omega) (by omega) ?_; intro q' c' w1 S1 hsz; have S2 := Lib.hid S1; clear S1 hsz))
  go_ret
  exact ⟨q', c', rfl, by have := S2.out; rw [Nat.zero_add, List.nil_append] at this; exact this⟩
set_option maxHeartbeats 1000000 in
theorem FindG (p : Option Addr) (n c : Nat) (hs : List Hd) (L : List Po) (s : ByteArray) (w : World) (hL : RdP w p n hs L) (hok : PoOk L) :
    Calls Try.prog 30 #[.slice p n c, .string s] w fun e w' => ∃ q c, e = .returned (.slice q (findL L s).length c) ∧ Sep w w' [.own 3 1 q (findL L s).length c (encI (findL L s))] := by
  have p1 := hL.ptr
  have n1 := hL.small
  have l1 := hL.hn
  have HL := Lib.hid hL; clear hL
  have L1 := Lib.hid l1; clear l1
  have HOK := Lib.hid hok; clear hok
  go_enter Try.func30, Try.ntmps30
  go_wp2
  go_loopw [6, 9] (fun _ i wr => ∃ k : Nat, k ≤ n ∧ i = .int .i64 k ∧ (∀ j, j < k → (nth L j).1 ≠ s) ∧ Sep w wr []) (fun _ i _ => n - (intOf i).toNat)
  case atStart => exact ⟨0, Nat.zero_le _, rfl, fun j hj => by omega, Sep.start w⟩
  case round =>
    obtain ⟨k, hk, rfl, ha, S⟩ := hrel
    have HA := Lib.hid ha; clear ha
    by_cases hlt : k < n
    · have g1 := S.ext.cell (HL.out.c1 k hlt)
      have g2 := S.ext.cell (HL.out.c2 k hlt)
      have RE := Lib.hid ((HL.out.each k hlt).ext S.ext)
      have SH := Lib.hid S; clear S
      have d1 : (0:Int) ≤ k := by omega
      have d2 : (k:Int) < n := by omega
      have hb0 := Lib.hid (str_beq (nth L k).1 s)
      have hlen : (nth hs k).n ≤ 1000 := by rw [RE.out.nI]; exact (HOK.out.at (by rw [← L1.out]; exact hlt)).1
      by_cases he : (nth L k).1 = s
      · have hq2 : ((nth L k).1.toList == s.toList) = true := by rw [hb0.out]; simp [he]
        have HF := Lib.hid (findL_at HA.out (by rw [← L1.out]; exact hlt) he)
        clear he
        go_wp2_with (go_at_call 68; go_must (refine (CloneI _ _ _ _ _ (RE.out.ext (Ext.alloc (Below.refl _ _) _)) (by omega)).mono ?_; rintro e w2 ⟨q, c', rfl, S1⟩; have S2 := Lib.hid ((SH.out.junk _).comp S1); clear S1))
        go_ret
        rw [HF.out]
        have h3 := RE.out.nI
        exact ⟨q, c', ret_slc h3, by rw [← h3]; exact S2.out⟩
      · have hq2 : ((nth L k).1.toList == s.toList) = false := by rw [hb0.out]; simp [he]
        have HE := Lib.hid he; clear he
        go_wp2
        go_roundw
        case rel => exact ⟨k + 1, by omega, by go_num, fun j hj => by
          rcases Nat.lt_succ_iff_lt_or_eq.1 hj with h | h
          · exact HA.out j h
          · subst h; exact HE.out, SH.out.junk _⟩
        case measure => simp [intOf]; omega
    · have HF := Lib.hid (findL_no HA.out (by rw [← L1.out]; exact hlt) (by rw [← L1.out]; exact hk))
      have SH := Lib.hid S; clear S
      go_wp2
      go_ret
      rw [HF.out]
      exact ⟨none, 0, rfl, SH.out.nilrow _ _⟩
set_option maxHeartbeats 1000000 in
theorem Find05 (p : Option Addr) (n c : Nat) (hs : List Hd) (L : List Po) (s : ByteArray) (w : World) (hL : RdP w p n hs L) (hok : PoOk L) :
    Calls Try.prog 31 #[.slice p n c, .string s] w fun e w' => ∃ q c, e = .returned (.slice q (findL L s).length c) ∧ Sep w w' [.own 3 1 q (findL L s).length c (encI (findL L s))] := by
  have p1 := hL.ptr
  have n1 := hL.small
  have l1 := hL.hn
  have HL := Lib.hid hL; clear hL
  have L1 := Lib.hid l1; clear l1
  have HOK := Lib.hid hok; clear hok
  go_enter Try.func31, Try.ntmps31
  go_wp2
  go_loopw [5] (fun i wr => ∃ k : Nat, k ≤ n ∧ i = .int .i64 k ∧ (∀ j, j < k → (nth L j).1 ≠ s) ∧ Sep w wr []) (fun i _ => n - (intOf i).toNat)
  case atStart => exact ⟨0, Nat.zero_le _, rfl, fun j hj => by omega, Sep.start w⟩
  case round =>
    obtain ⟨k, hk, rfl, ha, S⟩ := hrel
    have HA := Lib.hid ha; clear ha
    by_cases hlt : k < n
    · have g1 := S.ext.cell (HL.out.c1 k hlt)
      have g2 := S.ext.cell (HL.out.c2 k hlt)
      have RE := Lib.hid ((HL.out.each k hlt).ext S.ext)
      have SH := Lib.hid S; clear S
      have d1 : (0:Int) ≤ k := by omega
      have d2 : (k:Int) < n := by omega
      have hb0 := Lib.hid (str_beq (nth L k).1 s)
      have hlen : (nth hs k).n ≤ 1000 := by rw [RE.out.nI]; exact (HOK.out.at (by rw [← L1.out]; exact hlt)).1
      by_cases he : (nth L k).1 = s
      · have hq2 : ((nth L k).1.toList == s.toList) = true := by rw [hb0.out]; simp [he]
        have HF := Lib.hid (findL_at HA.out (by rw [← L1.out]; exact hlt) he)
        clear he
        go_wp2_with (go_at_call 66; go_must (refine (OwnI01 _ _ _ _ _ RE.out (by omega)).mono ?_; rintro e w2 ⟨q, c', rfl, S1⟩; have S2 := Lib.hid (SH.out.comp S1); clear S1))
        go_ret
        rw [HF.out]
        have h3 := RE.out.nI
        exact ⟨q, c', ret_slc h3, by rw [← h3]; exact S2.out⟩
      · have hq2 : ((nth L k).1.toList == s.toList) = false := by rw [hb0.out]; simp [he]
        have HE := Lib.hid he; clear he
        go_wp2
        go_roundw
        case rel => exact ⟨k + 1, by omega, by go_num, fun j hj => by
          rcases Nat.lt_succ_iff_lt_or_eq.1 hj with h | h
          · exact HA.out j h
          · subst h; exact HE.out, SH.out⟩
        case measure => simp [intOf]; omega
    · have HF := Lib.hid (findL_no HA.out (by rw [← L1.out]; exact hlt) (by rw [← L1.out]; exact hk))
      have SH := Lib.hid S; clear S
      go_wp2
      go_ret
      rw [HF.out]
      exact ⟨none, 0, rfl, SH.out.nilrow _ _⟩
end Go.Proofs.Ytcjkechemjdboaa
namespace Go.Proofs.Ytcjkechemjdboaa
open Go Go.RowKit
set_option maxHeartbeats 400000 in
theorem WordG (s : ByteArray) (w : World) (hs : s.size ≤ 140737488355328) : Calls Try.prog 69 #[.string s] w fun e w' => e = .returned (.bool (wordB s)) ∧ w = w' := by
  go_enter Try.func69, Try.ntmps69
  go_wp2
  go_loop [3, 6] (fun _ i => ∃ k : Nat, k ≤ s.size ∧ i = .int .i64 k ∧ (s.data.toList.take k).all lowB = true) (fun _ i => s.size - (intOf i).toNat)
  case atStart => exact ⟨0, Nat.zero_le _, rfl, rfl⟩
  case round =>
    obtain ⟨k, hk, rfl, ha⟩ := hrel
    have HA := Lib.hid ha; clear ha
    by_cases hlt : k < s.size
    · by_cases h1 : (s[k].toNat : Int) < 97
      · go_wp2
        go_ret
        exact ⟨ret_bool (wordB_no s k hlt (by omega)), rfl⟩
      · by_cases h2 : 122 < (s[k].toNat : Int)
        · go_wp2
          go_ret
          exact ⟨ret_bool (wordB_no s k hlt (by omega)), rfl⟩
        · go_wp2
          go_round
          case rel => exact ⟨k + 1, by omega, by go_num, wordB_step s k hlt HA.out (by omega) (by omega)⟩
          case measure => simp [intOf]; omega
    · have HE := Lib.hid (wordB_end s k hlt HA.out)
      by_cases h1 : s.size = 0
      · have he : s.toList = [] := by rw [ByteArray.toList_eq]; have : s.data.size = 0 := h1; exact List.length_eq_zero_iff.1 (by simpa using this)
        have he2 : (!s.toList.isEmpty) = false := by rw [he]; rfl
        have HZ := Lib.hid h1; clear h1
        go_wp2
        go_ret
        exact ⟨ret_bool (by rw [HE.out, HZ.out]; rfl), rfl⟩
      · have he : s.toList ≠ [] := by rw [ByteArray.toList_eq]; intro h; apply h1; have : s.data.toList.length = 0 := by rw [h]; rfl
                                      simpa using this
        have he2 : (!s.toList.isEmpty) = true := by simp [he]
        go_wp2
        go_ret
        exact ⟨ret_bool (by rw [HE.out, Bool.eq_iff_iff]; simp; omega), rfl⟩
theorem isPlaceG (N : Int) (pe : Option Addr) (ne ce : Nat) (pw : Option Addr) (nw cw : Nat) (v : Int) (w : World) :
    Calls Try.prog 106 #[.agg #[.int .i64 N, .slice pe ne ce, .slice pw nw cw], .int .i64 v] w fun e w' => e = .returned (.bool (decide (0 ≤ v ∧ v < N))) ∧ Ext w w' := by
  by_cases h : 0 ≤ v
  · go_enter Try.func106, Try.ntmps106
    go_wp2
    go_ret
    exact ⟨ret_bool (by rw [Bool.eq_iff_iff]; simp [h]), (Below.refl _ _).alloc (Nat.le_refl _) _⟩
  · go_enter Try.func106, Try.ntmps106
    go_wp2
    go_ret
    exact ⟨ret_bool (by rw [Bool.eq_iff_iff]; simp; omega), (Below.refl _ _).alloc (Nat.le_refl _) _⟩
theorem CheckLit (s : ByteArray) (w : World) (hs : s.size ≤ 140737488355328) : Calls Try.prog 108 #[.string s] w fun e w' => e = .returned (.bool (!wordB s)) ∧ w = w' := by
  go_enter Try.func108, Try.ntmps108
  go_wp2_with (go_at_call 69; refine (WordG _ _ hs).mono ?_; rintro e w' ⟨rfl, rfl⟩)
  go_ret
  exact ⟨rfl, rfl⟩
set_option maxHeartbeats 400000 in
/-- the first place of a text that is no word, or -1 -/
theorem IndexWord (p : Option Addr) (n c : Nat) (l : List ByteArray) (w : World) (hl : Rd w 1 p n (encS l)) (hz : ∀ s ∈ l, s.size ≤ 1000000) :
    Calls Try.prog 132 #[.slice p n c, .func (.func 108) #[] #[]] w fun e w' => ∃ i : Int, e = .returned (.int .i64 i) ∧ decide (0 ≤ i) = l.any (fun s => !wordB s) ∧ w = w' := by
  have p1 := hl.ptr
  have n1 := hl.small
  have l1 := hl.nS
  have HL := Lib.hid hl; clear hl
  have L1 := Lib.hid l1; clear l1
  have HZ := Lib.hid hz; clear hz
  go_enter Try.func132, Try.ntmps132
  go_wp2
  go_loop [5, 8] (fun _ i => ∃ k : Nat, k ≤ n ∧ i = .int .i64 k ∧ (l.take k).any (fun s => !wordB s) = false) (fun _ i => n - (intOf i).toNat)
  case atStart => exact ⟨0, Nat.zero_le _, rfl, rfl⟩
  case round =>
    obtain ⟨k, hk, rfl, ha⟩ := hrel
    have HA := Lib.hid ha; clear ha
    by_cases hlt : k < n
    · have g1 := HL.out.cS hlt
      have hsz : (nth l k).size ≤ 140737488355328 := by
        have := HZ.out (nth l k) (by rw [nth_eq (by rw [← L1.out]; exact hlt)]; exact List.getElem_mem _)
        omega
      by_cases hw : (!wordB (nth l k)) = true
      · have HF := Lib.hid (any_true_at (fun s => !wordB s) l k (by rw [← L1.out]; exact hlt) hw)
        go_wp2_with (go_at_call 108; refine (CheckLit _ _ hsz).mono ?_; rintro e w' ⟨rfl, rfl⟩)
        go_ret
        exact ⟨_, rfl, by rw [HF.out]; simp, rfl⟩
      · have hw' : (!wordB (nth l k)) = false := by simpa using hw
        have HW' := Lib.hid hw'
        clear hw
        go_wp2_with (go_at_call 108; refine (CheckLit _ _ hsz).mono ?_; rintro e w' ⟨rfl, rfl⟩)
        go_round
        case rel => exact ⟨k + 1, by omega, by go_num, any_step _ _ _ (by rw [← L1.out]; exact hlt) HA.out HW'.out⟩
        case measure => simp [intOf]; omega
    · have HF := Lib.hid (any_end _ _ _ (by rw [← L1.out]; exact hlt) HA.out)
      go_wp2
      go_ret
      exact ⟨_, rfl, by rw [HF.out]; rfl, rfl⟩
theorem ContainsWord (p : Option Addr) (n c : Nat) (l : List ByteArray) (w : World) (hl : Rd w 1 p n (encS l)) (hz : ∀ s ∈ l, s.size ≤ 1000000) :
    Calls Try.prog 107 #[.slice p n c, .func (.func 108) #[] #[]] w fun e w' => e = .returned (.bool (l.any (fun s => !wordB s))) ∧ w = w' := by
  have HC := Lib.hid (IndexWord p n c l w hl hz)
  clear hl hz
  go_enter Try.func107, Try.ntmps107
  go_wp2_with (go_at_call 132; refine HC.out.mono ?_; rintro e w' ⟨i, rfl, hi, rfl⟩; have HI := Lib.hid hi; clear hi)
  go_ret
  exact ⟨ret_bool HI.out, rfl⟩
end Go.Proofs.Ytcjkechemjdboaa
/- What right postings are: the program's rise and Check, the reference's Check. -/
namespace Go.Proofs.Ytcjkechemjdboaa
open Go Go.RowKit Go.Maps
def okAt (n : Int) (l : List Int) (i : Nat) : Bool := decide (0 ≤ nth l i) && decide (nth l i < n) && (decide (i = 0) || decide (nth l (i - 1) < nth l i))
def riseP (n : Int) (l : List Int) : Bool := decide (0 < l.length) && (List.range l.length).all (okAt n l)
def okP (n : Int) (L : List Po) (i : Nat) : Bool := wordB (nth L i).1 && (decide (i = 0) || sLess (nth L (i - 1)).1 (nth L i).1) && riseP n (nth L i).2
def checkP (n : Int) (L : List Po) : Bool := decide (1 ≤ n) && decide (n ≤ 200) && (List.range L.length).all (okP n L)
theorem riseP_no {n : Int} {l : List Int} {k : Nat} (hk : k < l.length) (h : okAt n l k = false) : riseP n l = false := by
  unfold riseP; rw [range_all_no _ _ k hk h]; simp
theorem riseP_end {n : Int} {l : List Int} {k : Nat} (hk : ¬ k < l.length) (h : (List.range k).all (okAt n l) = true) : riseP n l = decide (0 < l.length) := by
  unfold riseP
  have : (List.range l.length).all (okAt n l) = true := by
    rw [List.all_eq_true] at h ⊢
    exact fun i hi => h i (List.mem_range.2 (by have := List.mem_range.1 hi; omega))
  rw [this]; simp
theorem checkP_no {n : Int} {L : List Po} {k : Nat} (hk : k < L.length) (h : okP n L k = false) : checkP n L = false := by
  unfold checkP; rw [range_all_no _ _ k hk h]; simp
theorem checkP_end {n : Int} {L : List Po} {k : Nat} (hk : ¬ k < L.length) (h : (List.range k).all (okP n L) = true) : checkP n L = (decide (1 ≤ n) && decide (n ≤ 200)) := by
  unfold checkP
  have : (List.range L.length).all (okP n L) = true := by
    rw [List.all_eq_true] at h ⊢
    exact fun i hi => h i (List.mem_range.2 (by have := List.mem_range.1 hi; omega))
  rw [this]; simp
set_option maxHeartbeats 1000000 in
theorem riseG (p : Option Addr) (m c : Nat) (l : List Int) (n : Int) (w : World) (hl : Rd w 1 p m (encI l)) :
    Calls Try.prog 70 #[.slice p m c, .int .i64 n] w fun e w' => e = .returned (.bool (riseP n l)) ∧ w = w' := by
  have p1 := hl.ptr
  have n1 := hl.small
  have l1 := hl.nI
  have HL := Lib.hid hl; clear hl
  have L1 := Lib.hid l1; clear l1
  go_enter Try.func70, Try.ntmps70
  go_wp2
  go_loop [5, 6, 9] (fun _ _ i => ∃ k : Nat, k ≤ m ∧ i = .int .i64 k ∧ (List.range k).all (okAt n l) = true) (fun _ _ i => m - (intOf i).toNat)
  case atStart => exact ⟨0, Nat.zero_le _, rfl, rfl⟩
  case round =>
    obtain ⟨k, hk, rfl, ha⟩ := hrel
    have HA := Lib.hid ha; clear ha
    by_cases hlt : k < m
    · have g1 := HL.out.cI hlt
      have d1 : (0:Int) ≤ k := by omega
      have d2 : (k:Int) < m := by omega
      by_cases h1 : nth l k < 0
      · have b1 : decide (nth l k < 0) = true := by simpa using h1
        go_wp2
        go_ret
        exact ⟨ret_bool (riseP_no (by rw [← L1.out]; exact hlt) (by unfold okAt; simp; omega)).symm, rfl⟩
      · have b1 : decide (nth l k < 0) = false := by simpa using h1
        by_cases h2 : n ≤ nth l k
        · have b2 : decide (n ≤ nth l k) = true := by simpa using h2
          go_wp2
          go_ret
          exact ⟨ret_bool (riseP_no (by rw [← L1.out]; exact hlt) (by unfold okAt; simp; omega)).symm, rfl⟩
        · have b2 : decide (n ≤ nth l k) = false := by simpa using h2
          by_cases h0 : k = 0
          · subst h0
            have HO : Hid (okAt n l 0 = true) := by unfold Hid okAt; simp; omega
            go_wp2
            go_round
            case rel => exact ⟨1, by omega, by go_num, range_all_succ _ _ HA.out HO.out⟩
            case measure => simp [intOf]; omega
          · have b3 : decide ((0:Int) < (k:Int)) = true := by simp; omega
            have d4 : (1:Int) ≤ (k:Int) := by omega
            have d5 : (k:Int) - 1 < m := by omega
            have d6 : (0:Int) ≤ (k:Int) - 1 := by omega
            have g2 := HL.out.cI (k := k - 1) (by omega)
            by_cases h3 : nth l k ≤ nth l (k - 1)
            · have b4 : decide (nth l k ≤ nth l (k - 1)) = true := by simpa using h3
              go_wp2
              go_ret
              exact ⟨ret_bool (riseP_no (by rw [← L1.out]; exact hlt) (by unfold okAt; simp; omega)).symm, rfl⟩
            · have b4 : decide (nth l k ≤ nth l (k - 1)) = false := by simpa using h3
              have HO : Hid (okAt n l k = true) := by unfold Hid okAt; simp; omega
              go_wp2
              go_round
              case rel => exact ⟨k + 1, by omega, by go_num, range_all_succ _ _ HA.out HO.out⟩
              case measure => simp [intOf]; omega
    · have HE := Lib.hid (riseP_end (by rw [← L1.out]; exact hlt) HA.out)
      go_wp2
      go_ret
      exact ⟨ret_bool (by rw [HE.out, ← L1.out]), rfl⟩
theorem WordX (s : ByteArray) (w : World) (hs : s.size ≤ 140737488355328) : Calls Try.prog 69 #[.string s] w fun e w' => e = .returned (.bool (wordB s)) ∧ Ext w w' :=
  (WordG s w hs).mono fun _ _ ⟨h, hw⟩ => ⟨h, by subst hw; exact Below.refl _ _⟩
theorem riseX (p : Option Addr) (m c : Nat) (l : List Int) (n : Int) (w : World) (hl : Rd w 1 p m (encI l)) :
    Calls Try.prog 70 #[.slice p m c, .int .i64 n] w fun e w' => e = .returned (.bool (riseP n l)) ∧ Ext w w' :=
  (riseG p m c l n w hl).mono fun _ _ ⟨h, hw⟩ => ⟨h, by subst hw; exact Below.refl _ _⟩
/-- texts that are not too long -/
def PoSz (L : List Po) : Prop := ∀ p ∈ L, p.1.size ≤ 1000000
theorem PoSz.at {L : List Po} (h : PoSz L) {k : Nat} (hk : k < L.length) : (nth L k).1.size ≤ 140737488355328 := by
  have := h (nth L k) (by rw [nth_eq hk]; exact List.getElem_mem _); omega
theorem sLess_eq (a b : ByteArray) : Op.bytesLess a.toList b.toList = sLess a b := rfl
set_option maxRecDepth 100000 in
set_option maxHeartbeats 2000000 in
theorem CheckP (p : Option Addr) (m c : Nat) (hs : List Hd) (L : List Po) (n : Int) (w : World) (hL : RdP w p m hs L) (hz : PoSz L) :
    Calls Try.prog 32 #[.slice p m c, .int .i64 n] w fun e w' => e = .returned (.bool (checkP n L)) ∧ Ext w w' := by
  have p1 := hL.ptr
  have n1 := hL.small
  have l1 := hL.hn
  have HL := Lib.hid hL; clear hL
  have L1 := Lib.hid l1; clear l1
  have HZ := Lib.hid hz; clear hz
  go_enter Try.func32, Try.ntmps32
  go_wp2
  go_loopw [5, 6, 9] (fun _ _ i wr => ∃ k : Nat, k ≤ m ∧ i = .int .i64 k ∧ (List.range k).all (okP n L) = true ∧ Sep w wr []) (fun _ _ i _ => m - (intOf i).toNat)
  case atStart => exact ⟨0, Nat.zero_le _, rfl, rfl, Sep.start w⟩
  case round =>
    obtain ⟨k, hk, rfl, ha, S⟩ := hrel
    have HA := Lib.hid ha; clear ha
    by_cases hlt : k < m
    · have g1 := S.ext.cell (HL.out.c1 k hlt)
      have g2 := S.ext.cell (HL.out.c2 k hlt)
      have RE := Lib.hid ((HL.out.each k hlt).ext S.ext)
      have SH := Lib.hid S; clear S
      have d1 : (0:Int) ≤ k := by omega
      have d2 : (k:Int) < m := by omega
      have hkL : k < L.length := by rw [← L1.out]; exact hlt
      have HW := Lib.hid (fun x : ExtOf (wr.alloc (.cells #[.string (nth L k).1, .slice (nth hs k).p (nth hs k).n (nth hs k).c] 69)) => WordX (nth L k).1 x.val (HZ.out.at hkL))
      have HR := Lib.hid (fun x : ExtOf (wr.alloc (.cells #[.string (nth L k).1, .slice (nth hs k).p (nth hs k).n (nth hs k).c] 69)) => riseX (nth hs k).p (nth hs k).n (nth hs k).c (nth L k).2 n x.val ((RE.out.ext (Ext.alloc (Below.refl _ _) _)).ext x.ext))
      have x1 := fun x : ExtOf (wr.alloc (.cells #[.string (nth L k).1, .slice (nth hs k).p (nth hs k).n (nth hs k).c] 69)) => x.ext.cell ((Blk.new wr 69 #[.string (nth L k).1, .slice (nth hs k).p (nth hs k).n (nth hs k).c]).cell 0)
      have x2 := fun x : ExtOf (wr.alloc (.cells #[.string (nth L k).1, .slice (nth hs k).p (nth hs k).n (nth hs k).c] 69)) => x.ext.cell ((Blk.new wr 69 #[.string (nth L k).1, .slice (nth hs k).p (nth hs k).n (nth hs k).c]).cell 1)
      have ho : okP n L k = (wordB (nth L k).1 && (decide (k = 0) || sLess (nth L (k - 1)).1 (nth L k).1) && riseP n (nth L k).2) := rfl
      cases hwb : wordB (nth L k).1 with
      | false =>
        have HF : Hid (checkP n L = false) := checkP_no hkL (by rw [ho, hwb]; rfl)
        rw [hwb] at HW
        clear ho hwb
        go_wp2
        refine wp_region_ext (by kernel_rfl) (by kernel_rfl) ?_
        repeat (go_big_quiet_step ((first | (go_at_call 69; exact Calls.ext_of (HW.out _)) | (go_at_call 70; exact Calls.ext_of (HR.out _)))))
        refine wpQuiet_nil ?_
        rintro w1 ⟨⟨_, hb1⟩, rfl⟩
        go_wp2
        go_ret
        exact ⟨ret_bool HF.out.symm, Ext.trans SH.out.ext (Ext.trans (Ext.alloc (Below.refl _ _) _) hb1)⟩
      | true =>
        rw [hwb] at HW
        by_cases h0 : k = 0
        · subst h0
          cases hrb : riseP n (nth L 0).2 with
          | false =>
            have HF : Hid (checkP n L = false) := checkP_no hkL (by rw [ho, hwb, hrb]; rfl)
            rw [hrb] at HR
            clear ho hwb hrb
            go_wp2
            refine wp_region_ext (by kernel_rfl) (by kernel_rfl) ?_
            repeat (go_big_quiet_step ((first | (go_at_call 69; exact Calls.ext_of (HW.out _)) | (go_at_call 70; exact Calls.ext_of (HR.out _)))))
            refine wpQuiet_nil ?_
            rintro w1 ⟨⟨_, hb1⟩, rfl⟩
            go_wp2
            go_ret
            exact ⟨ret_bool HF.out.symm, Ext.trans SH.out.ext (Ext.trans (Ext.alloc (Below.refl _ _) _) hb1)⟩
          | true =>
            have HF : Hid (okP n L 0 = true) := by unfold Hid; rw [ho, hwb, hrb]; rfl
            rw [hrb] at HR
            clear ho hwb hrb
            obtain ⟨k, hk0⟩ : ∃ k : Nat, k = 0 := ⟨0, rfl⟩
            go_wp2
            refine wp_region_ext (by kernel_rfl) (by kernel_rfl) ?_
            repeat (go_big_quiet_step ((first | (go_at_call 69; exact Calls.ext_of (HW.out _)) | (go_at_call 70; exact Calls.ext_of (HR.out _)))))
            refine wpQuiet_nil ?_
            rintro w1 ⟨⟨_, hb1⟩, rfl⟩
            go_wp2
            go_roundw
            case rel => exact ⟨1, by omega, by go_num, range_all_succ _ _ HA.out HF.out, (SH.out.junk _).call hb1⟩
            case measure => simp [intOf]; omega
        · have b3 : decide ((0:Int) < (k:Int)) = true := by simp; omega
          have b3n : decide (0 < k) = true := by simp; omega
          have d4 : (1:Int) ≤ (k:Int) := by omega
          have d5 : (k:Int) - 1 < m := by omega
          have d6 : (0:Int) ≤ (k:Int) - 1 := by omega
          have g3 := SH.out.ext.cell (HL.out.c1 (k - 1) (by omega))
          have x3 := fun x : ExtOf (wr.alloc (.cells #[.string (nth L k).1, .slice (nth hs k).p (nth hs k).n (nth hs k).c] 69)) => x.ext.cell ((Ext.alloc (Below.refl wr.heap.size wr) _).cell g3)
          have hk0 : decide (k = 0) = false := by simpa using h0
          cases hsb : sLess (nth L (k - 1)).1 (nth L k).1 with
          | false =>
            have HF : Hid (checkP n L = false) := checkP_no hkL (by rw [ho, hwb, hk0, hsb]; rfl)
            have b4 : Op.bytesLess (nth L (k - 1)).1.toList (nth L k).1.toList = false := hsb
            clear ho hwb hsb hk0
            go_wp2
            refine wp_region_ext (by kernel_rfl) (by kernel_rfl) ?_
            repeat (go_big_quiet_step ((first | (go_at_call 69; exact Calls.ext_of (HW.out _)) | (go_at_call 70; exact Calls.ext_of (HR.out _)))))
            refine wpQuiet_nil ?_
            rintro w1 ⟨⟨_, hb1⟩, rfl⟩
            go_wp2
            go_ret
            exact ⟨ret_bool HF.out.symm, Ext.trans SH.out.ext (Ext.trans (Ext.alloc (Below.refl _ _) _) hb1)⟩
          | true =>
            have b4 : Op.bytesLess (nth L (k - 1)).1.toList (nth L k).1.toList = true := hsb
            cases hrb : riseP n (nth L k).2 with
            | false =>
              have HF : Hid (checkP n L = false) := checkP_no hkL (by rw [ho, hwb, hk0, hsb, hrb]; rfl)
              rw [hrb] at HR
              clear ho hwb hsb hk0 hrb
              go_wp2
              refine wp_region_ext (by kernel_rfl) (by kernel_rfl) ?_
              repeat (go_big_quiet_step ((first | (go_at_call 69; exact Calls.ext_of (HW.out _)) | (go_at_call 70; exact Calls.ext_of (HR.out _)))))
              refine wpQuiet_nil ?_
              rintro w1 ⟨⟨_, hb1⟩, rfl⟩
              go_wp2
              go_ret
              exact ⟨ret_bool HF.out.symm, Ext.trans SH.out.ext (Ext.trans (Ext.alloc (Below.refl _ _) _) hb1)⟩
            | true =>
              have HF : Hid (okP n L k = true) := by unfold Hid; rw [ho, hwb, hk0, hsb, hrb]; rfl
              rw [hrb] at HR
              clear ho hwb hsb hk0 hrb
              go_wp2
              refine wp_region_ext (by kernel_rfl) (by kernel_rfl) ?_
              repeat (go_big_quiet_step ((first | (go_at_call 69; exact Calls.ext_of (HW.out _)) | (go_at_call 70; exact Calls.ext_of (HR.out _)))))
              refine wpQuiet_nil ?_
              rintro w1 ⟨⟨_, hb1⟩, rfl⟩
              go_wp2
              go_roundw
              case rel => exact ⟨k + 1, by omega, by go_num, range_all_succ _ _ HA.out HF.out, (SH.out.junk _).call hb1⟩
              case measure => simp [intOf]; omega
    · have HE := Lib.hid (checkP_end (by rw [← L1.out]; exact hlt) HA.out)
      have SH := Lib.hid S; clear S
      by_cases h1 : 1 ≤ n
      · have b1 : decide (1 ≤ n) = true := by simpa using h1
        go_wp2
        go_ret
        exact ⟨ret_bool (by rw [HE.out, b1]; rfl), SH.out.ext⟩
      · have b1 : decide (1 ≤ n) = false := by simpa using h1
        go_wp2
        go_ret
        exact ⟨ret_bool (by rw [HE.out, b1]; rfl), SH.out.ext⟩
end Go.Proofs.Ytcjkechemjdboaa
namespace Go.Proofs.Ytcjkechemjdboaa
open Go Go.RowKit
set_option maxRecDepth 100000 in
set_option maxHeartbeats 1000000 in
theorem Texts02 (p : Option Addr) (n c : Nat) (l : List ByteArray) (w : World) (hl : Rd w 1 p n (encS l)) (hz : n ≤ 1000000) :
    Calls Try.prog 59 #[.slice p n c] w fun e w' => ∃ p' n' c', e = .returned (.slice p' n' c') ∧ n' = (putAll sLess l).length ∧ w'.ownsRow w.heap.size 9 1 (.slice p' n' c') n' (encS (putAll sLess l)) ∧ Ext w w' := by
  obtain ⟨i0, hi0, hz0, hz1, hz2⟩ := info_parts inf9
  have p1 := hl.ptr
  have n1 := hl.small
  have l1 := hl.nS
  have HL := Lib.hid hl; clear hl
  have L1 := Lib.hid l1; clear l1
  go_enter Try.func59, Try.ntmps59
  go_wp2
  go_loopw [3, 4, 5, 6] (fun s i _ _ wr => ∃ (k : Nat) (o : List ByteArray) (q : Option Addr) (m cq : Nat), k ≤ n ∧ i = .int .i64 k ∧ s = .slice q m cq ∧ o = (l.take k).foldl (putL sLess) [] ∧ m = ((l.take k).foldl (putL sLess) []).length ∧ wr.ownsRow w.heap.size 9 1 (.slice q m cq) m (encS ((l.take k).foldl (putL sLess) [])) ∧ Ext w wr) (fun _ i _ _ _ => n - (intOf i).toNat)
  case atStart => exact ⟨0, [], none, 0, 0, Nat.zero_le _, rfl, rfl, rfl, rfl, World.ownsRow_nil _ _ _ _, Below.refl _ _⟩
  case round =>
    obtain ⟨k, o, q, m, cq, hk, rfl, rfl, ho, hm, hown, hb⟩ := hrel
    rw [← ho] at hm hown
    have hmk : m ≤ k := by
      rw [hm, ho]; have := foldl_put_len sLess (l.take k) []; rw [List.length_take] at this; simp at this ⊢; omega
    have hmc := own_cap hown
    have hq := Rd.of_own hown (by omega)
    have p2 := hq.ptr
    have HO := Lib.hid ho; clear ho
    have HM := Lib.hid hm; clear hm
    have HB := Lib.hid hb; clear hb
    have HQ := Lib.hid hq; clear hq
    have HOWN := Lib.hid hown; clear hown
    by_cases hlt : k < n
    · have g0 := HB.out.cell (HL.out.cS hlt)
      go_wp2
      obtain ⟨wo, rfl⟩ : ∃ wo : World, wo = wr := ⟨_, rfl⟩
      go_loopw [5] (fun a wx => ∃ j : Nat, j ≤ m ∧ a = .int .i64 j ∧ (o.take j).all (fun y => sLess y (nth l k)) = true ∧ Ext wo wx) (fun a _ => m - (intOf a).toNat)
      case atStart => exact ⟨0, Nat.zero_le _, rfl, rfl, Below.refl _ _⟩
      case round =>
        obtain ⟨j, hj, rfl, ha, hb⟩ := hrel
        have g1 := g0
        replace g0 := hb.cell g0
        have HA := Lib.hid ha; clear ha
        have HX := Lib.hid hb; clear hb
        have d1 : (0:Int) ≤ j := by omega
        have k1 : (0:Int) ≤ k := by omega
        have k2 : (k:Int) < n := by omega
        have HSTOP : Hid (∀ (hs : j < m → sLess (nth o j) (nth l k) = false), ahead sLess o (nth l k) = j) := fun hs => ahead_of sLess o (nth l k) j (by rw [← HM.out]; exact hj) HA.out (fun h => hs (by rw [HM.out]; exact h))
        have RA : Hid (∀ W, Ext wo W → Rd W 1 q j (encS (o.take j))) := fun W hW => by
          have := (HQ.out.ext hW).take hj
          rwa [encS_take] at this
        have RC : Hid (∀ W, Ext wo W → Rd W 1 (cutp q cq j 1) (m - j) (encS (o.drop j))) := fun W hW => by
          have := (HQ.out.ext hW).cut hj (Nat.le_refl m) hmc
          rw [encS_drop, List.take_of_length_le (by rw [encS_len, List.length_drop, ← HM.out]; omega)] at this
          exact this
        have BW : Hid (∀ i, Ext wo (wr.drewN i)) := fun i => HX.out.drewN i
        have Z1 := Lib.hid HX.out.size
        by_cases hjt : j < m
        · have g3 := HX.out.cell (HQ.out.cS hjt)
          have d2 : (j:Int) < m := by omega
          have d3 : decide ((j:Int) < m) = true := by simp; omega
          have d4 : decide (j < m) = true := by simp; omega
          by_cases hless : sLess (nth o j) (nth l k) = true
          · have hless2 : Op.bytesLess (nth o j).toList (nth l k).toList = true := hless
            go_wp2
            go_quiet (fail)
            go_wp2
            go_roundw
            case rel => exact ⟨j + 1, by omega, by go_num, all_step _ _ _ (by rw [← HM.out]; exact hjt) HA.out hless, HX.out.drewN _⟩
            case measure => simp [intOf]; omega
          · have hless' : sLess (nth o j) (nth l k) = false := by simpa using hless
            clear hless
            have hless2 : Op.bytesLess (nth o j).toList (nth l k).toList = false := hless'
            have HAT := Lib.hid (HSTOP.out (fun _ => hless'))
            have hb0 := Lib.hid (str_beq (nth o j) (nth l k))
            by_cases heq : nth o j = nth l k
            · have hq2 : ((nth o j).toList == (nth l k).toList) = true := by rw [hb0.out]; simp [heq]
              have HF := Lib.hid (putL_same HAT.out (by rw [← HM.out]; exact hjt) heq)
              clear heq
              go_wp2
              go_quiet (fail)
              go_wp2
              go_quiet (fail)
              go_wp2
              go_roundw
              case rel => exact ⟨k + 1, _, q, m, cq, by omega, by go_num, rfl, rfl, by rw [foldl_take_succ _ _ _ _ (by rw [← L1.out]; exact hlt), ← HO.out, HF.out]; exact HM.out, by rw [foldl_take_succ _ _ _ _ (by rw [← L1.out]; exact hlt), ← HO.out, HF.out]; exact (BW.out _).own HOWN.out, Ext.trans HB.out (BW.out _)⟩
              case measure => simp [intOf]; omega
            · have hq2 : ((nth o j).toList == (nth l k).toList) = false := by rw [hb0.out]; simp [heq]
              have HF := Lib.hid (putL_new HAT.out (fun _ => heq))
              clear heq
              go_wp2
              go_quiet (fail)
              go_wp2
              go_quiet (fail)
              go_wp2_with (first | (at_builtin; have _t := OW2; go_must ((refine wpList_append_rd rfl _ _ _ rfl wo.heap.size 9 i0 _ 1 16 Try.underlying35 hi0 hz0 hz1 hz2 rfl (by omega) q2 (j + 1) c2 _ rfl OW2.out (cutp q cq j 1) (m - j) (cq - j) (encS (o.drop j)) rfl (RC.out _ BW3.out) (one_encS _) (by omega) (by omega) (by exact Nat.le_trans Z1.out (Nat.le_trans BS2.out (Nat.le_trans (Nat.le_succ _) BS3.out))) ?_; intro q3 c3 w4 own3 hg3 hat3 hl3; have BW4 := Lib.hid (Below.trans BW3.out hl3); have OW3 := Lib.hid own3; clear own3 hg3 hat3 hl3))) | (at_builtin; have _t := OW1; go_must ((refine wpList_append_rd rfl _ _ _ rfl wo.heap.size 9 i0 _ 1 16 Try.underlying35 hi0 hz0 hz1 hz2 rfl (by omega) q1 j c1 _ rfl (World.ownsRow.alloc OW1.out _) _ 1 1 _ rfl (Rd.oneS w2 _ (nth l k)) (one_encS _) (by omega) (by omega) (by rw [World.size_alloc]; exact Nat.le_succ_of_le (Nat.le_trans Z1.out BS2.out)) ?_; intro q2 c2 w3 own2 hg2 hat2 hl2; have BW3 := Lib.hid (Below.trans (Ext.alloc BW2.out _) hl2); have BS3 := Lib.hid (by have := hl2.size; rwa [World.size_alloc] at this); have OW2 := Lib.hid own2; clear own2 hg2 hat2 hl2))) | (at_builtin; go_must ((refine wpList_append_rd rfl _ _ _ rfl wo.heap.size 9 i0 _ 1 16 Try.underlying35 hi0 hz0 hz1 hz2 rfl (by omega) none 0 0 [] rfl (World.ownsRow_nil _ _ _ _) q j cq (encS (o.take j)) rfl (RA.out _ (BW.out _)) (one_encS _) (by omega) (by omega) (by exact Z1.out) ?_; intro q1 c1 w2 own1 hg1 hat1 hl1; have g1' := Ext.cell (Below.trans (BW.out _) hl1) g1; have BW2 := Lib.hid (Below.trans (BW.out _) hl1); have BS2 := Lib.hid hl1.size; simp only [Nat.zero_add, List.nil_append] at own1; have OW1 := Lib.hid own1; clear own1 hg1 hat1 hl1))))
              go_roundw
              case rel => exact ⟨k + 1, _, q3, _, c3, by omega, by go_num, rfl, rfl, by rw [foldl_take_succ _ _ _ _ (by rw [← L1.out]; exact hlt), ← HO.out, HF.out, List.length_append, List.length_append, List.length_take, List.length_drop]; have hm9 := HM.out; simp only [List.length_cons, List.length_nil]; omega, by rw [foldl_take_succ _ _ _ _ (by rw [← L1.out]; exact hlt), ← HO.out, HF.out]; have := own_base OW3.out (b := w.heap.size) HB.out.size; simpa [encS_append, encS] using this, Ext.trans HB.out BW4.out⟩
              case measure => simp [intOf]; omega
        · have HAT := Lib.hid (HSTOP.out (fun h => absurd h hjt))
          have HF := Lib.hid (putL_new HAT.out (fun h => absurd (by rw [HM.out]; exact h) hjt))
          have d3 : decide ((j:Int) < m) = false := by simp; omega
          have d4 : decide (j < m) = false := by simp; omega
          go_wp2
          go_quiet (fail)
          go_wp2
          go_quiet (fail)
          go_wp2_with (first | (at_builtin; have _t := OW2; go_must ((refine wpList_append_rd rfl _ _ _ rfl wo.heap.size 9 i0 _ 1 16 Try.underlying35 hi0 hz0 hz1 hz2 rfl (by omega) q2 (j + 1) c2 _ rfl OW2.out (cutp q cq j 1) (m - j) (cq - j) (encS (o.drop j)) rfl (RC.out _ BW3.out) (one_encS _) (by omega) (by omega) (by exact Nat.le_trans Z1.out (Nat.le_trans BS2.out (Nat.le_trans (Nat.le_succ _) BS3.out))) ?_; intro q3 c3 w4 own3 hg3 hat3 hl3; have BW4 := Lib.hid (Below.trans BW3.out hl3); have OW3 := Lib.hid own3; clear own3 hg3 hat3 hl3))) | (at_builtin; have _t := OW1; go_must ((refine wpList_append_rd rfl _ _ _ rfl wo.heap.size 9 i0 _ 1 16 Try.underlying35 hi0 hz0 hz1 hz2 rfl (by omega) q1 j c1 _ rfl (World.ownsRow.alloc OW1.out _) _ 1 1 _ rfl (Rd.oneS w2 _ (nth l k)) (one_encS _) (by omega) (by omega) (by rw [World.size_alloc]; exact Nat.le_succ_of_le (Nat.le_trans Z1.out BS2.out)) ?_; intro q2 c2 w3 own2 hg2 hat2 hl2; have BW3 := Lib.hid (Below.trans (Ext.alloc BW2.out _) hl2); have BS3 := Lib.hid (by have := hl2.size; rwa [World.size_alloc] at this); have OW2 := Lib.hid own2; clear own2 hg2 hat2 hl2))) | (at_builtin; go_must ((refine wpList_append_rd rfl _ _ _ rfl wo.heap.size 9 i0 _ 1 16 Try.underlying35 hi0 hz0 hz1 hz2 rfl (by omega) none 0 0 [] rfl (World.ownsRow_nil _ _ _ _) q j cq (encS (o.take j)) rfl (RA.out _ (BW.out _)) (one_encS _) (by omega) (by omega) (by exact Z1.out) ?_; intro q1 c1 w2 own1 hg1 hat1 hl1; have g1' := Ext.cell (Below.trans (BW.out _) hl1) g1; have BW2 := Lib.hid (Below.trans (BW.out _) hl1); have BS2 := Lib.hid hl1.size; simp only [Nat.zero_add, List.nil_append] at own1; have OW1 := Lib.hid own1; clear own1 hg1 hat1 hl1))))
          go_roundw
          case rel => exact ⟨k + 1, _, q3, _, c3, by omega, by go_num, rfl, rfl, by rw [foldl_take_succ _ _ _ _ (by rw [← L1.out]; exact hlt), ← HO.out, HF.out, List.length_append, List.length_append, List.length_take, List.length_drop]; have hm9 := HM.out; simp only [List.length_cons, List.length_nil]; omega, by rw [foldl_take_succ _ _ _ _ (by rw [← L1.out]; exact hlt), ← HO.out, HF.out]; have := own_base OW3.out (b := w.heap.size) HB.out.size; simpa [encS_append, encS] using this, Ext.trans HB.out BW4.out⟩
          case measure => simp [intOf]; omega
    · go_wp2
      go_ret
      have hkn : l.take k = l := List.take_of_length_le (by rw [← L1.out]; omega)
      have := HO.out
      rw [hkn] at this
      exact ⟨q, m, cq, rfl, by unfold putAll; rw [← this]; exact HM.out, by unfold putAll; rw [← this]; exact HOWN.out, HB.out⟩
end Go.Proofs.Ytcjkechemjdboaa
namespace Go.Proofs.Ytcjkechemjdboaa
open Go Go.RowKit
theorem inf35 : (Try.prog.info? 35).map (fun i => (i.zero, i.size, i.bytes)) = some (some (.slice none 0 0), 1, 24) := by kernel_rfl
/-- a graph in memory of the call's own, read alone -/
def GraphR (w : World) (v : Value) (N : Int) (E : List (Int × Int)) (W : List (List ByteArray)) : Prop :=
  ∃ pe ne ce pw nw cw hs, v = .agg #[.int .i64 N, .slice pe ne ce, .slice pw nw cw] ∧ Rd w 2 pe ne (encE E) ∧ ne ≤ ce ∧ RdW w pw nw hs W ∧ nw ≤ cw
set_option maxRecDepth 100000 in
set_option maxHeartbeats 1000000 in
theorem Own02 (N : Int) (pe : Option Addr) (ne ce : Nat) (pw : Option Addr) (nw cw : Nat) (E : List (Int × Int)) (hs : List Hd) (W : List (List ByteArray)) (w : World) (hE : Rd w 2 pe ne (encE E)) (hW : RdW w pw nw hs W) (h1 : ne ≤ 100000) (h2 : nw ≤ 100000) (h3 : ∀ l ∈ W, l.length ≤ 100000) :
    Calls Try.prog 14 #[.agg #[.int .i64 N, .slice pe ne ce, .slice pw nw cw]] w fun e w' => ∃ v, e = .returned v ∧ GraphR w' v N E W ∧ Ext w w' := by
  obtain ⟨i0, hi0, hz0, hz1, hz2⟩ := info_parts inf34
  obtain ⟨j0, hj0, hy0, hy1, hy2⟩ := info_parts inf35
  have p2 := hW.row.ptr
  have n2 := hW.row.small
  have l2 := hW.nW
  have HE := Lib.hid hE; clear hE
  have HW := Lib.hid hW; clear hW
  have L2 := Lib.hid l2; clear l2
  have H3 := Lib.hid h3; clear h3
  go_enter Try.func14, Try.ntmps14
  go_wp2_with (at_builtin; go_must ((refine wpList_append_rd rfl _ _ _ rfl (w.heap.size + 1 + 1 + 1) 71 i0 _ 2 16 Try.underlying22 hi0 hz0 hz1 hz2 rfl (by omega) none 0 0 [] rfl (World.ownsRow_nil _ _ _ _) pe ne ce (encE E) rfl (HE.out.ext (alloc3 w _ _ _).2.2.2) (one_encE _) (by omega) (by omega) (by simp) ?_; intro q1 c1 w1 own1 hg1 hat1 hl1; simp only [Nat.zero_add, List.nil_append] at own1; have BG : Blk w1 w.heap.size _ _ := (hl1.block _ (by omega)).trans (alloc3 w _ _ _).1; have BR : Blk w1 (w.heap.size + 1) _ _ := (hl1.block _ (by omega)).trans (alloc3 w _ _ _).2.1; have BO : Blk w1 (w.heap.size + 1 + 1) _ _ := (hl1.block _ (by omega)).trans (alloc3 w _ _ _).2.2.1; have HB := Lib.hid (Below.trans (alloc3 w _ _ _).2.2.2 (hl1.mono (by omega))); have g0 := BG.cell 0; have g1 := BG.cell 1; have g2 := BG.cell 2; have o0 := BO.cell 0; have o1 := BO.cell 1; have o2 := BO.cell 2; have f1 := BO.frozen 1; have f2 := BO.frozen 2; have OE := Lib.hid own1; have BG' := Lib.hid BG; have BR' := Lib.hid BR; have BO' := Lib.hid BO; clear own1 hg1 hat1 hl1 BG BR BO)))
  go_loopw [4, 5] (fun i _ wr => ∃ (k : Nat) (q : Option Addr) (cq : Nat) (hs' : List Hd), k ≤ nw ∧ i = .int .i64 k ∧ OwnW wr (w.heap.size + 1 + 1 + 1) q k cq hs' (W.take k) ∧ wr.ownsRow (w.heap.size + 1 + 1 + 1) 71 2 (.slice q1 ne c1) ne (encE E) ∧
    Blk wr w.heap.size 25 #[.int .i64 N, .slice pe ne ce, .slice pw nw cw] ∧ Blk wr (w.heap.size + 1) 25 #[.int .i64 0, .slice none 0 0, .slice none 0 0] ∧ Blk wr (w.heap.size + 1 + 1) 25 #[.int .i64 N, .slice q1 ne c1, .slice q k cq] ∧ Ext w wr) (fun i _ _ => nw - (intOf i).toNat)
  case atStart => exact ⟨0, none, 0, [], Nat.zero_le _, rfl, OwnW.nil _ _, own_set OE.out BO'.out (by decide) _ _, BG'.out.far (by simp; omega) _, BR'.out.far (by simp) _, BO'.out.set_ 1 _, HB.out.setCell (by simp; omega) _⟩
  case round =>
    clear g0 g1 g2 o0 o1 o2 f1 f2 HB OE BG' BR' BO'
    obtain ⟨k, q, cq, hs', hk, rfl, OW, OE, BG, BR, BO, HB⟩ := hrel
    have g0 := BG.cell 0
    have g2 := BG.cell 2
    have o0 := BO.cell 0
    have o1 := BO.cell 1
    have o2 := BO.cell 2
    have r0 := BR.cell 0
    have r1 := BR.cell 1
    have r2 := BR.cell 2
    have k0 := BR.frozen 0
    have k1 := BR.frozen 1
    have k2 := BR.frozen 2
    have z0 : w.heap.size + 1 + 1 < wr.heap.size := BO.lt
    have OW0 := Lib.hid OW; clear OW
    have OE0 := Lib.hid OE; clear OE
    have BG0 := Lib.hid BG; clear BG
    have BR0 := Lib.hid BR; clear BR
    have BO0 := Lib.hid BO; clear BO
    have HB0 := Lib.hid HB; clear HB
    by_cases hlt : k < nw
    · have gh := HB0.out.cell (HW.out.row.cH hlt)
      have QS := Lib.hid ((HW.out.each k hlt).ext HB0.out)
      have hlen : (nth hs k).n ≤ 100000 := by rw [QS.out.nS]; exact H3.out _ (by rw [nth_eq (by rw [← L2.out]; exact hlt)]; exact List.getElem_mem _)
      have HT : Hid (W.take (k + 1) = W.take k ++ [nth W k]) := take_succ_nth W k (by rw [← L2.out]; exact hlt)
      have t1 : (35 : TypeId) ≠ 25 := by decide
      have t2 : (35 : TypeId) ≠ 71 := by decide
      have m1 : (nth hs k).n ≤ 1000000 := by omega
      have m2 : w.heap.size + 1 + 1 + 1 ≤ wr.heap.size := z0
      have m3 : (k + 1) * 24 ≤ 140737488355328 := by omega
      have m4 : k + 1 ≤ 140737488355328 := by omega
      have m5 : ∀ w2 : World, Ext wr w2 → w.heap.size + 1 + 1 + 1 ≤ (w2.alloc (.cells #[.int .i64 0] 0)).heap.size := fun w2 h => by rw [World.size_alloc]; exact Nat.le_succ_of_le (Nat.le_trans m2 h.size)
      have M3 := Lib.hid m3; clear m3
      have M4 := Lib.hid m4; clear m4
      have M5 := Lib.hid m5; clear m5
      go_wp2_with (first
        | (at_builtin; have _t := OR; go_must ((refine wpList_append_rd rfl _ _ _ rfl (w.heap.size + 1 + 1 + 1) 35 j0 _ 1 24 Try.underlying23 hj0 hy0 hy1 hy2 rfl (by omega) q k cq _ rfl (World.ownsRow.alloc OW2.out.row _) _ 1 1 _ rfl (Rd.oneH w2 _ p' (nth hs k).n c') (one_slice _ _ _) M3.out M4.out (by rw [World.size_alloc]; exact Nat.le_succ_of_le (Nat.le_trans m2 HX2.out.size)) ?_; intro q3 c3 w3 own3 hg3 hat3 hl3; have BO3 := BO2.out.kept OW2.out.row t1 hg3; have BG3 := BG2.out.kept OW2.out.row t1 hg3; have BR3 := BR2.out.kept OW2.out.row t1 hg3; have OE3 := Lib.hid (own_kept OE2.out OW2.out.row t2 hg3); have OW3 := Lib.hid (OwnW.push1 OW2.out OR.out own3 hg3); have x2 := BO3.cell 2; have xf := BO3.frozen 2; have HB3 := Lib.hid (Below.trans (Ext.alloc HB2.out _) (hl3.mono (Nat.le_succ_of_le (Nat.le_succ_of_le (Nat.le_succ _))))); have BO4 := Lib.hid BO3; have BG4 := Lib.hid BG3; have BR4 := Lib.hid BR3; clear own3 hg3 hat3 hl3 BO3 BG3 BR3)))
        | (go_at_call 25; go_must ((refine (OwnTexts01 _ _ _ _ _ QS.out m1).mono ?_; rintro e w2 ⟨p', c', rfl, ownr, hb2⟩; have OR := Lib.hid (own_base ownr (b := w.heap.size + 1 + 1 + 1) m2); have HX2 := Lib.hid hb2; have OW2 := Lib.hid (OW0.out.ext hb2); have OE2 := Lib.hid (hb2.own OE0.out); have BG2 := Lib.hid (BG0.out.ext hb2); have BR2 := Lib.hid (BR0.out.ext hb2); have BO2 := Lib.hid (BO0.out.ext hb2); have HB2 := Lib.hid (Ext.trans HB0.out hb2); have y2 := BO2.out.cell 2; have z2 := BO2.out.lt; clear hb2 ownr))))
      go_roundw
      case rel => exact ⟨k + 1, q3, c3, _, by omega, by go_num, by rw [HT.out]; exact OW3.out.set_ BO4.out (by decide) (by decide) _ _, own_set OE3.out BO4.out (by decide) _ _, BG4.out.far (by simp; omega) _, BR4.out.far (by simp) _, BO4.out.set_ 2 _, HB3.out.setCell (by simp; omega) _⟩
      case measure => simp [intOf]; omega
    · have hkn : k = nw := by omega
      subst hkn
      have HT : Hid (W.take k = W) := List.take_of_length_le (by rw [← L2.out]; omega)
      go_wp2
      have B0 := BR0.out
      have B1 := B0.set_ 0 (.int .i64 N)
      have B2 := B1.set_ 1 (.slice q1 ne c1)
      have c0 := (B2.set_ 2 (.slice q k cq)).cell 0
      have c1' := (B2.set_ 2 (.slice q k cq)).cell 1
      have c2 := (B2.set_ 2 (.slice q k cq)).cell 2
      refine bodyPost_ret (v := .agg #[.int .i64 N, .slice q1 ne c1, .slice q k cq]) (by simp [results, Try.results14, go_sem, c0, c1', c2, Try.sizeOf25, Try.isAgg25]) rfl ⟨_, rfl, ?_, ?_⟩
      · have OE := own_set (own_set (own_set OE0.out B0 (by decide) 0 (.int .i64 N)) B1 (by decide) 1 (.slice q1 ne c1)) B2 (by decide) 2 (.slice q k cq)
        have OW := ((OW0.out.set_ B0 (by decide) (by decide) 0 (.int .i64 N)).set_ B1 (by decide) (by decide) 1 (.slice q1 ne c1)).set_ B2 (by decide) (by decide) 2 (.slice q k cq)
        rw [HT.out] at OW
        exact ⟨q1, ne, c1, q, k, cq, hs', rfl, Rd.of_own OE (by omega), own_cap OE, OW.rd (by omega) (fun l hl => Nat.le_trans (H3.out l hl) (by omega)), own_cap OW.row⟩
      · exact ((HB0.out.setCell (by simp) _).setCell (by simp) _).setCell (by simp) _
end Go.Proofs.Ytcjkechemjdboaa
namespace Go.Proofs.Ytcjkechemjdboaa
open Go Go.RowKit
set_option maxHeartbeats 1000000 in
theorem Check02 (N : Int) (pe : Option Addr) (ne ce : Nat) (pw : Option Addr) (nw cw : Nat) (E : List (Int × Int)) (hs : List Hd) (W : List (List ByteArray)) (w : World) (hE : Rd w 2 pe ne (encE E)) (hW : RdW w pw nw hs W) (hz : SzW W) :
    Calls Try.prog 95 #[.agg #[.int .i64 N, .slice pe ne ce, .slice pw nw cw]] w fun e w' => e = .returned (.bool (checkB N E W)) ∧ Ext w w' := by
  have p1 := hE.ptr
  have p2 := hW.row.ptr
  have n1 := hE.small
  have n2 := hW.row.small
  have l1 := hE.nE
  have l2 := hW.nW
  have HE := Lib.hid hE; clear hE
  have HW := Lib.hid hW; clear hW
  have HZ := Lib.hid hz; clear hz
  by_cases hpre : 1 ≤ N ∧ N ≤ 200 ∧ ne ≤ 2000 ∧ (nw : Int) = N
  · obtain ⟨c1, c2, c3, rfl⟩ := hpre
    have YES : ∀ (h5 : E.all (edgeOk nw) = true) (h6 : W.all rowOk = true), checkB nw E W = true := checkB_yes c1 c2 (by omega) (by omega)
    have L1 := Lib.hid l1; clear l1
    have L2 := Lib.hid l2; clear l2
    have HY := Lib.hid YES; clear YES
    have t1 : ((nw : Int) != (nw : Int)) = false := by simp
    go_enter Try.func95, Try.ntmps95
    go_wp2
    go_loopw [3, 4] (fun i _ wr => ∃ k : Nat, k ≤ ne ∧ i = .int .i64 k ∧ (E.take k).all (edgeOk nw) = true ∧ Ext w wr ∧ GBox wr w.heap.size (nw : Int) pe ne ce pw nw cw) (fun i _ _ => ne - (intOf i).toNat)
    case atStart => exact ⟨0, Nat.zero_le _, rfl, rfl, (Below.refl _ _).alloc (Nat.le_refl _) _, GBox.new _ _⟩
    case round =>
      obtain ⟨k, hk, rfl, ha, hb, gb1⟩ := hrel
      have HA := Lib.hid ha; clear ha
      have HB := Lib.hid hb; clear hb
      have G1 := Lib.hid gb1
      obtain ⟨b0, b1, b2⟩ := gb1
      have z0 : w.heap.size < wr.heap.size := World.block_lt_of_cell? wr _ b0
      by_cases hlt : k < ne
      · have g1 := HB.out.cell (HE.out.cE hlt)
        have g2 := HB.out.cell (HE.out.cE2 hlt)
        by_cases hok : 0 ≤ (nth E k).1 ∧ (nth E k).1 < nw ∧ 0 ≤ (nth E k).2 ∧ (nth E k).2 < nw
        · have HO : Hid (edgeOk nw (nth E k) = true) := by unfold Hid edgeOk; exact decide_eq_true hok
          obtain ⟨o1, o2, o3, o4⟩ := hok
          go_wp2
          go_roundw
          case rel => exact ⟨k + 1, by omega, by go_num, all_step _ _ _ (by rw [← L1.out]; exact hlt) HA.out HO.out, HB.out.alloc _, G1.out.alloc _⟩
          case measure => simp [intOf]; omega
        · have HO : Hid (edgeOk nw (nth E k) = false) := by unfold Hid edgeOk; exact decide_eq_false hok
          have HF := Lib.hid (checkB_E (W := W) (by rw [← L1.out]; exact hlt) HO.out)
          clear HO
          by_cases o1 : 0 ≤ (nth E k).1
          · by_cases o2 : (nth E k).1 < nw
            · by_cases o3 : 0 ≤ (nth E k).2
              · have o4 : ¬ (nth E k).2 < nw := fun h => hok ⟨o1, o2, o3, h⟩
                clear hok
                go_wp2
                go_ret
                exact ⟨ret_bool HF.out.symm, HB.out.alloc _⟩
              · clear hok
                go_wp2
                go_ret
                exact ⟨ret_bool HF.out.symm, HB.out.alloc _⟩
            · clear hok
              go_wp2
              go_ret
              exact ⟨ret_bool HF.out.symm, HB.out.alloc _⟩
          · clear hok
            go_wp2
            go_ret
            exact ⟨ret_bool HF.out.symm, HB.out.alloc _⟩
      · have HEE := Lib.hid (all_end _ _ _ (by rw [← L1.out]; exact hlt) HA.out)
        go_wp2
        clear hlt HA hk
        obtain ⟨wo, rfl⟩ : ∃ wo : World, wo = wr := ⟨_, rfl⟩
        go_loopw [5, 6] (fun i _ wr => ∃ k : Nat, k ≤ nw ∧ i = .int .i64 k ∧ (W.take k).all rowOk = true ∧ Ext w wr ∧ GBox wr w.heap.size (nw : Int) pe ne ce pw nw cw) (fun i _ _ => nw - (intOf i).toNat)
        case atStart => exact ⟨0, Nat.zero_le _, rfl, rfl, HB.out, G1.out⟩
        case round =>
          clear HB G1 b0 b1 b2
          obtain ⟨k, hk, rfl, ha, hb, gb1⟩ := hrel
          have HA := Lib.hid ha; clear ha
          have HB := Lib.hid hb; clear hb
          have G1 := Lib.hid gb1
          obtain ⟨b0, b1, b2⟩ := gb1
          by_cases hlt : k < nw
          · have g1 := HB.out.cell (HW.out.row.cH hlt)
            have q1 := (HW.out.each k hlt).ext HB.out
            have p3 := q1.ptr
            have n3 := q1.small
            have l3 := q1.nS
            have Q1 := Lib.hid q1; clear q1
            have L3 := Lib.hid l3; clear l3
            go_wp2
            go_loop [6] (fun i => ∃ j : Nat, j ≤ (nth hs k).n ∧ i = .int .i64 j ∧ ((nth W k).take j).all wordB = true) (fun i => (nth hs k).n - (intOf i).toNat)
            case atStart => exact ⟨0, Nat.zero_le _, rfl, rfl⟩
            case round =>
              obtain ⟨j, hj, rfl, hja⟩ := hrel
              have HJ := Lib.hid hja; clear hja
              by_cases hjt : j < (nth hs k).n
              · have g3 := Q1.out.cS hjt
                have hsz := HZ.out.at (k := k) (j := j) (by rw [← L2.out]; exact hlt) (by rw [← L3.out]; exact hjt)
                by_cases hw : wordB (nth (nth W k) j) = true
                · go_wp2_with (go_at_call 71; refine (Word02 _ _ (by omega)).mono ?_; rintro e w' ⟨rfl, rfl⟩)
                  go_round
                  case rel => exact ⟨j + 1, by omega, by go_num, all_step _ _ _ (by rw [← L3.out]; exact hjt) HJ.out hw⟩
                  case measure => simp [intOf]; omega
                · have hw' : wordB (nth (nth W k) j) = false := by simpa using hw
                  clear hw
                  have HF := Lib.hid (checkB_W (N := nw) (E := E) (k := k) (W := W) (by rw [← L2.out]; exact hlt) (by unfold rowOk; rw [all_false_at wordB (nth W k) j (by rw [← L3.out]; exact hjt) hw']; rfl))
                  go_wp2_with (go_at_call 71; refine (Word02 _ _ (by omega)).mono ?_; rintro e w' ⟨rfl, rfl⟩)
                  go_ret
                  exact ⟨ret_bool HF.out.symm, HB.out⟩
              · have HR := Lib.hid (all_end _ _ _ (by rw [← L3.out]; exact hjt) HJ.out)
                by_cases h8 : (nth hs k).n ≤ 8
                · go_wp2
                  go_roundw
                  case rel => exact ⟨k + 1, by omega, by go_num, all_step _ _ _ (by rw [← L2.out]; exact hlt) HA.out (by unfold rowOk; rw [HR.out, ← L3.out]; simp [h8]), HB.out, G1.out⟩
                  case measure => simp [intOf]; omega
                · have HF := Lib.hid (checkB_W (N := nw) (E := E) (k := k) (W := W) (by rw [← L2.out]; exact hlt) (by unfold rowOk; rw [← L3.out]; simp [h8]))
                  go_wp2
                  go_ret
                  exact ⟨ret_bool HF.out.symm, HB.out⟩
          · have HR := Lib.hid (all_end _ _ _ (by rw [← L2.out]; exact hlt) HA.out)
            go_wp2
            go_ret
            exact ⟨ret_bool (HY.out HEE.out HR.out).symm, HB.out⟩
  · have HF := Lib.hid (checkB_pre (N := N) (E := E) (W := W) (by rw [← l1, ← l2]; exact hpre))
    clear l1 l2 HE HW HZ p1 p2
    have h1 : ∀ o1 : Obj, Ext w (w.alloc o1) := fun o1 => (Below.refl _ _).alloc (Nat.le_refl _) _
    by_cases c1 : 1 ≤ N
    · by_cases c2 : N ≤ 200
      · by_cases c3 : ne ≤ 2000
        · have c4 : ((nw : Int) != N) = true := by rw [bne_iff_ne]; exact fun h => hpre ⟨c1, c2, c3, h⟩
          clear hpre
          go_enter Try.func95, Try.ntmps95
          go_wp2
          go_ret
          exact ⟨ret_bool HF.out.symm, h1 _⟩
        · clear hpre
          go_enter Try.func95, Try.ntmps95
          go_wp2
          go_ret
          exact ⟨ret_bool HF.out.symm, h1 _⟩
      · clear hpre
        go_enter Try.func95, Try.ntmps95
        go_wp2
        go_ret
        exact ⟨ret_bool HF.out.symm, h1 _⟩
    · clear hpre
      go_enter Try.func95, Try.ntmps95
      go_wp2
      go_ret
      exact ⟨ret_bool HF.out.symm, h1 _⟩
end Go.Proofs.Ytcjkechemjdboaa
namespace Go.Proofs.Ytcjkechemjdboaa
open Go Go.RowKit
/-- what the reference makes: a graph that is read, in memory from a block on -/
def GraphN (w : World) (base : Nat) (v : Value) (N : Int) (E : List (Int × Int)) (W : List (List ByteArray)) : Prop :=
  ∃ pe ne ce pw nw cw hs, v = .agg #[.int .i64 N, .slice pe ne ce, .slice pw nw cw] ∧ Rd w 2 pe ne (encE E) ∧ ne ≤ ce ∧ RdW w pw nw hs W ∧ nw ≤ cw ∧
    (0 < ne → base ≤ (adr pe 0).block) ∧ (0 < nw → base ≤ (adr pw 0).block) ∧ (∀ j, j < nw → 0 < (nth hs j).n → base ≤ (adr (nth hs j).p 0).block)
theorem GraphN.toR {w : World} {base : Nat} {v : Value} {N : Int} {E : List (Int × Int)} {W : List (List ByteArray)} (h : GraphN w base v N E W) : GraphR w v N E W := by
  obtain ⟨pe, ne, ce, pw, nw, cw, hs, h1, h2, h3, h4, h5, _⟩ := h
  exact ⟨pe, ne, ce, pw, nw, cw, hs, h1, h2, h3, h4, h5⟩
theorem GraphN.set {w : World} {base : Nat} {v : Value} {N : Int} {E : List (Int × Int)} {W : List (List ByteArray)} (h : GraphN w base v N E W) {b : Nat} (hb : b < base) (i : Nat) (u : Value) : GraphN (w.setCell ⟨b, i, none⟩ u) base v N E W := by
  obtain ⟨pe, ne, ce, pw, nw, cw, hs, h1, h2, h3, h4, h5, f1, f2, f3⟩ := h
  exact ⟨pe, ne, ce, pw, nw, cw, hs, h1, h2.set_ (fun h => by have := f1 h; omega) i u, h3, ⟨h4.hn, h4.row.set_ (fun h => by have := f2 h; omega) i u, fun j hj => (h4.each j hj).set_ (fun h => by have := f3 j hj h; omega) i u⟩, h5, f1, f2, f3⟩
theorem GraphN.mono {w : World} {base b : Nat} {v : Value} {N : Int} {E : List (Int × Int)} {W : List (List ByteArray)} (h : GraphN w base v N E W) (hb : b ≤ base) : GraphN w b v N E W := by
  obtain ⟨pe, ne, ce, pw, nw, cw, hs, h1, h2, h3, h4, h5, f1, f2, f3⟩ := h
  exact ⟨pe, ne, ce, pw, nw, cw, hs, h1, h2, h3, h4, h5, fun h => Nat.le_trans hb (f1 h), fun h => Nat.le_trans hb (f2 h), fun j hj h => Nat.le_trans hb (f3 j hj h)⟩
theorem GraphN.nil (w : World) (base : Nat) : GraphN w base (.agg #[.int .i64 0, .slice none 0 0, .slice none 0 0]) 0 [] [] :=
  ⟨none, 0, 0, none, 0, 0, [], rfl, Rd.nil _ _ _, Nat.le_refl _, ⟨rfl, Rd.nil _ _ _, fun j hj => by omega⟩, Nat.le_refl _, fun h => by omega, fun h => by omega, fun j hj => by omega⟩
end Go.Proofs.Ytcjkechemjdboaa
/- The reference's Turned and Degrees. -/
namespace Go.Proofs.Ytcjkechemjdboaa
open Go Go.RowKit
def swapE (x : Int × Int) : Int × Int := (x.2, x.1)
theorem encE_snoc (l : List (Int × Int)) (x : Int × Int) : encE (l ++ [x]) = encE l ++ encE [x] := by simp [encE]
end Go.Proofs.Ytcjkechemjdboaa
/- Plain laws of chapter 2: what is normal is normal again; turned twice. -/
namespace Go.Proofs.Ytcjkechemjdboaa
open Go Go.RowKit
theorem rise_iff {α : Type} [Inhabited α] {lt : α → α → Bool} (h : STO lt) (l : List α) : riseB lt l = true ↔ Rises lt l := by
  constructor
  · intro hr
    unfold riseB at hr
    rw [List.all_eq_true] at hr
    have step : ∀ i, i + 1 < l.length → lt (nth l i) (nth l (i + 1)) = true := fun i hi => hr i (List.mem_range.2 (by omega))
    have key : ∀ d i, i + d + 1 < l.length → lt (nth l i) (nth l (i + d + 1)) = true := by
      intro d
      induction d with
      | zero => intro i hi; exact step i hi
      | succ d ih => intro i hi; exact h.trans _ _ _ (ih i (by omega)) (step (i + d + 1) (by omega))
    unfold Rises
    rw [List.pairwise_iff_getElem]
    intro i j hi hj hij
    have := key (j - i - 1) i (by omega)
    rw [show i + (j - i - 1) + 1 = j from by omega, nth_eq hi, nth_eq hj] at this
    exact this
  · intro hr
    unfold riseB
    rw [List.all_eq_true]
    intro i hi
    have hi2 := List.mem_range.1 hi
    unfold Rises at hr
    rw [List.pairwise_iff_getElem] at hr
    unfold riseAt
    rw [nth_eq (by omega), nth_eq (by omega)]
    exact hr i (i + 1) (by omega) (by omega) (by omega)
theorem putAll_eq_iff {α : Type} [DecidableEq α] {lt : α → α → Bool} (h : STO lt) (l : List α) : putAll lt l = l ↔ Rises lt l := by
  constructor
  · intro e; rw [← e]; exact putAll_rises h l
  · intro hr; exact rises_uniq h _ _ (putAll_rises h l) hr fun x => putAll_mem h l x
theorem putAll_idem {α : Type} [DecidableEq α] {lt : α → α → Bool} (h : STO lt) (l : List α) : putAll lt (putAll lt l) = putAll lt l := (putAll_eq_iff h _).2 (putAll_rises h l)
theorem riseB_putAll {α : Type} [DecidableEq α] [Inhabited α] {lt : α → α → Bool} (h : STO lt) (l : List α) : riseB lt (putAll lt l) = true := (rise_iff h _).2 (putAll_rises h l)
theorem edgeOk_swap (N : Int) (x : Int × Int) : edgeOk N (swapE x) = edgeOk N x := by
  unfold edgeOk swapE
  rw [Bool.eq_iff_iff]; simp; omega
theorem rowOk_putAll {l : List ByteArray} (h : rowOk l = true) : rowOk (putAll sLess l) = true := by
  unfold rowOk at h ⊢
  simp only [Bool.and_eq_true, List.all_eq_true, decide_eq_true_eq] at h ⊢
  exact ⟨fun x hx => h.1 x ((putAll_mem stoS l x).1 hx), Nat.le_trans (putAll_len sLess l) h.2⟩
theorem rowsOk_map {W : List (List ByteArray)} (h : W.all rowOk = true) : (W.map (putAll sLess)).all rowOk = true := by
  rw [List.all_eq_true] at h ⊢
  intro l hl
  obtain ⟨l', hl', rfl⟩ := List.mem_map.1 hl
  exact rowOk_putAll (h l' hl')
/-- a normal graph's check -/
theorem check_norm {N : Int} {E F : List (Int × Int)} {W : List (List ByteArray)} (h : checkB N E W = true) (hl : F.length ≤ 2000) (hF : ∀ x ∈ F, edgeOk N x = true) : checkB N F (W.map (putAll sLess)) = true := by
  obtain ⟨h1, h2, h3, h4, h5, h6⟩ := checkB_parts h
  exact checkB_yes h1 h2 hl (by rw [List.length_map]; exact h4) (List.all_eq_true.2 hF) (rowsOk_map h6)
theorem check_swap {N : Int} {E : List (Int × Int)} {W : List (List ByteArray)} : checkB N (E.map swapE) W = checkB N E W := by
  have : (E.map swapE).all (edgeOk N) = E.all (edgeOk N) := by
    rw [Bool.eq_iff_iff, List.all_eq_true, List.all_eq_true]
    constructor
    · intro h x hx; rw [← edgeOk_swap]; exact h _ (List.mem_map_of_mem hx)
    · intro h x hx; obtain ⟨y, hy, rfl⟩ := List.mem_map.1 hx; rw [edgeOk_swap]; exact h y hy
  unfold checkB
  rw [this, List.length_map]
theorem swapE_swapE (x : Int × Int) : swapE (swapE x) = x := rfl
theorem map_putAll_idem (W : List (List ByteArray)) : (W.map (putAll sLess)).map (putAll sLess) = W.map (putAll sLess) := by
  rw [List.map_map]
  exact List.map_congr_left fun l _ => putAll_idem stoS l
/-- turned twice -/
theorem putAll_turn2 (E : List (Int × Int)) : putAll lessE ((putAll lessE (E.map swapE)).map swapE) = putAll lessE E := by
  refine rises_uniq stoE _ _ (putAll_rises stoE _) (putAll_rises stoE _) fun x => ?_
  rw [putAll_mem stoE, putAll_mem stoE]
  constructor
  · intro h
    obtain ⟨y, hy, rfl⟩ := List.mem_map.1 h
    rw [putAll_mem stoE] at hy
    obtain ⟨z, hz, rfl⟩ := List.mem_map.1 hy
    exact hz
  · intro h
    exact List.mem_map.2 ⟨swapE x, (putAll_mem stoE _ _).2 (List.mem_map_of_mem h), rfl⟩
theorem is_norm {N : Int} {E F : List (Int × Int)} {W : List (List ByteArray)} (h : checkB N E W = true) (hl : F.length ≤ 2000) (hF : ∀ x ∈ F, edgeOk N x = true) (hr : riseB lessE F = true) : isB N F (W.map (putAll sLess)) = true := by
  unfold isB
  rw [check_norm h hl hF, hr]
  simp only [Bool.and_self, Bool.true_and, List.all_eq_true]
  intro l hl
  obtain ⟨l', _, rfl⟩ := List.mem_map.1 hl
  exact riseB_putAll stoS l'
/-- a graph is normal just if it is the one that Normal makes -/
theorem is_same {N : Int} {E : List (Int × Int)} {W : List (List ByteArray)} (h : checkB N E W = true) : isB N E W = sameB N (putAll lessE E) (W.map (putAll sLess)) N E W := by
  unfold isB sameB
  rw [h, Bool.true_and, Bool.eq_iff_iff, Bool.and_eq_true, decide_eq_true_eq, rise_iff stoE, putAll_eq_iff stoE]
  simp only [true_and]
  refine and_congr_right fun _ => ?_
  rw [List.all_eq_true]
  constructor
  · intro hr
    conv => rhs; rw [← List.map_id W]
    exact List.map_congr_left fun l hl => (putAll_eq_iff stoS l).2 ((rise_iff stoS l).1 (hr l hl))
  · intro e l hl
    rw [rise_iff stoS, ← putAll_eq_iff stoS]
    have h2 : ∀ l ∈ W, putAll sLess l = id l := List.map_inj_left.1 (e.trans (List.map_id W).symm)
    exact h2 l hl
theorem szW_map {W : List (List ByteArray)} (h : SzW W) : SzW (W.map (putAll sLess)) := by
  intro l hl s hs
  obtain ⟨l', hl', rfl⟩ := List.mem_map.1 hl
  exact h l' hl' s ((putAll_mem stoS l' s).1 hs)
/-- all that the law GraphTwice asks of a graph that may be -/
structure TwiceF (N : Int) (E : List (Int × Int)) (W : List (List ByteArray)) (A C : List (Int × Int)) (V : List (List ByteArray)) : Prop where
  n1 : normN N E W = N ∧ normE N E W = A ∧ normW N E W = V ∧ normC N E W = 0
  n2 : normN N A V = N ∧ normE N A V = A ∧ normW N A V = V ∧ normC N A V = 0
  n3 : normN N (E.map swapE) W = N ∧ normE N (E.map swapE) W = C ∧ normW N (E.map swapE) W = V ∧ normC N (E.map swapE) W = 0
  n4 : normN N (C.map swapE) V = N ∧ normE N (C.map swapE) V = A ∧ normW N (C.map swapE) V = V ∧ normC N (C.map swapE) V = 0
  i1 : isB N A V = true
  i2 : isB N C V = true
  i3 : isB N E W = sameB N A V N E W
  lA : A.length ≤ 2000
  lC : C.length ≤ 2000
  lV : V.length ≤ 200
  lV2 : ∀ l ∈ V, l.length ≤ 8
theorem norm_of {N : Int} {E A : List (Int × Int)} {W V : List (List ByteArray)} (hc : checkB N E W = true) (hA : putAll lessE E = A) (hV : W.map (putAll sLess) = V) : normN N E W = N ∧ normE N E W = A ∧ normW N E W = V ∧ normC N E W = 0 := by
  unfold normN normE normW normC
  rw [hc, hA, hV]
  exact ⟨rfl, rfl, rfl, rfl⟩
theorem twice_facts {N : Int} {E : List (Int × Int)} {W : List (List ByteArray)} (hc : checkB N E W = true) : TwiceF N E W (putAll lessE E) (putAll lessE (E.map swapE)) (W.map (putAll sLess)) := by
  obtain ⟨h1, h2, h3, h4, h5, h6⟩ := checkB_parts hc
  have hA : ∀ x ∈ putAll lessE E, edgeOk N x = true := fun x hx => List.all_eq_true.1 h5 x ((putAll_mem stoE E x).1 hx)
  have lA : (putAll lessE E).length ≤ 2000 := Nat.le_trans (putAll_len lessE E) h3
  have hcs : checkB N (E.map swapE) W = true := by rw [check_swap]; exact hc
  have hC : ∀ x ∈ putAll lessE (E.map swapE), edgeOk N x = true := fun x hx => List.all_eq_true.1 (checkB_parts hcs).2.2.2.2.1 x ((putAll_mem stoE _ x).1 hx)
  have lC : (putAll lessE (E.map swapE)).length ≤ 2000 := Nat.le_trans (putAll_len lessE _) (by rw [List.length_map]; exact h3)
  refine ⟨norm_of hc rfl rfl, norm_of (check_norm hc lA hA) (putAll_idem stoE _) (map_putAll_idem W), norm_of hcs rfl rfl, norm_of (by rw [check_swap]; exact check_norm hc lC hC) (putAll_turn2 E) (map_putAll_idem W), is_norm hc lA hA (riseB_putAll stoE _), is_norm hc lC hC (riseB_putAll stoE _), is_same hc, lA, lC, by rw [List.length_map]; omega, ?_⟩
  intro l hl
  obtain ⟨l', hl', rfl⟩ := List.mem_map.1 hl
  exact Nat.le_trans (putAll_len sLess l') (rowOk_len h6 l' hl')
end Go.Proofs.Ytcjkechemjdboaa
/- The program's found, by meet: the closures, and all that they make. (FndB: by join; made of this text by gen2.py.) -/
namespace Go.Proofs.Ytcjkechemjdboaa
open Go Go.RowKit Go.Maps
theorem methAll (a : Nat) (w : World) : Calls Try.prog 62 #[.map (some a)] w fun e w' => e = .returned (.func (.func 63) #[.map (some a)] #[]) ∧ Ext w w' := by
  go_enter Try.func62, Try.ntmps62
  go_wp2
  go_ret
  exact ⟨rfl, Below.refl _ _⟩
/-- what the free operations of the closure's region tell -/
def CloAll (w : World) (L : List Po) (s : ByteArray) (S : Int → Prop) (a n : Nat) (i : Nat) (v : Value) (W : World) : Prop :=
  match i with
  | 2 => v = .func (.func 63) #[.map (some a)] #[]
  | 5 => ∃ q c, v = .slice q (findL L s).length c ∧ Rd W 1 q (findL L s).length (encI (findL L s))
  | 6 => ∃ b f, v = .map (some b) ∧ MapI Try.prog 3 EB b 1000 f W ∧ ∀ x, f x = some true ↔ x ∈ findL L s
  | 7 => ∃ b f, v = .map (some b) ∧ w.heap.size ≤ b ∧ MapI Try.prog 3 EB b (n + 1000) f W ∧ ∀ x, f x = some true ↔ (S x ∧ x ∈ findL L s)
  | _ => True
theorem CloAll_mono {w : World} {L : List Po} {s : ByteArray} {S : Int → Prop} {a n : Nat} : ∀ i v W W', Ext W W' → CloAll w L s S a n i v W → CloAll w L s S a n i v W' := by
  intro i v W W' he h
  unfold CloAll at *
  split at h
  · exact h
  · obtain ⟨q, c, h1, h2⟩ := h; exact ⟨q, c, h1, h2.ext he⟩
  · obtain ⟨b, f, h1, h2, h3⟩ := h; exact ⟨b, f, h1, h2.ext he, h3⟩
  · obtain ⟨b, f, h1, h0, h2, h3⟩ := h; exact ⟨b, f, h1, h0, h2.ext he, h3⟩
  · trivial
set_option maxRecDepth 100000 in
set_option maxHeartbeats 1000000 in
theorem closAll (a n : Nat) (f : Int → Option Bool) (S : Int → Prop) (s : ByteArray) (b5 b3 : Nat) (p : Option Addr) (np cp : Nat) (hs : List Hd) (L : List Po) (w : World) (hA : MapI Try.prog 3 EB a n f w) (hf : ∀ x, f x = some true ↔ S x)
    (h5 : w.cell? ⟨b5, 0, none⟩ = some (.func (.func 62) #[] #[])) (h3 : w.cell? ⟨b3, 0, none⟩ = some (.slice p np cp)) (hL : RdP w p np hs L) (hok : PoOk L) (hn : n ≤ 500000) :
    Calls Try.prog 98 #[.map (some a), .string s, .pointer (some ⟨b5, 0, none⟩), .pointer (some ⟨b3, 0, none⟩)] w fun e w' => ∃ c h, e = .returned (.map (some c)) ∧ Sep w w' [.map Try.prog 3 EB c (n + 1000) h] ∧ ∀ x, h x = some true ↔ (S x ∧ x ∈ findL L s) := by
  have HFO := Lib.hid (findL_ok hok s)
  have HA := Lib.hid hA; clear hA
  have HF := Lib.hid hf; clear hf
  have HL := Lib.hid hL; clear hL
  have HOK := Lib.hid hok; clear hok
  have x5 := fun x : ExtOf w => x.ext.cell h5
  have x3 := fun x : ExtOf w => x.ext.cell h3
  go_enter Try.func98, Try.ntmps98
  go_wp2
  refine wp_region_mix [true, true, false, true, true, false, false, false] (CloAll w L s S a n) (by kernel_rfl) (by kernel_rfl) (by kernel_rfl) CloAll_mono ?_
  simp only [nfM]
  repeat (go_big_quiet_step ((fail)))
  refine wpQuiet_nil ⟨⟨fun vs W hE hd => ?_, fun vs W hE hd => ?_, fun vs W hE hd => ?_, fun vs W hE hd => ?_, trivial⟩, fun vs W hE hkn => ?_⟩
  · simp [putM, execOp, go_sem]
    exact (methAll a W).mono fun e w' ⟨h1, h2⟩ => ⟨_, h1, rfl, h2⟩
  · simp [putM, go_sem]
    exact (FindG p np cp hs L s W (HL.out.ext hE) HOK.out).mono fun e w' ⟨q, c, h1, h2⟩ => ⟨_, h1, ⟨q, c, rfl, h2.rd 0 rfl (by have := HFO.out.1; omega)⟩, h2.ext⟩
  · obtain ⟨q, c, e1, e2⟩ := hd 5 (by decide) rfl
    simp [putM, go_sem, e1]
    exact (ofG q _ c (findL L s) W e2 HFO.out.2 (by have := HFO.out.1; omega)).mono fun e w' ⟨b, g, h1, h2, h3⟩ => ⟨_, h1, ⟨b, g, rfl, (h2.map 0 rfl).mono HFO.out.1, h3⟩, h2.ext⟩
  · have e0 : vs 2 = _ := hd 2 (by decide) rfl
    obtain ⟨b, g, e1, e2, e3⟩ := hd 6 (by decide) rfl
    simp [putM, execOp, go_sem, e0, e1]
    exact (meetG a b n 1000 f g W (HA.out.ext hE) e2 (by omega)).mono fun e w' ⟨c, h, h1, h2, h3⟩ => ⟨_, h1, ⟨c, h, rfl, Nat.le_trans hE.size (h2.new _ (List.mem_singleton.2 rfl) c rfl), (h2.map 0 rfl).mono (by omega), fun x => by rw [h3, HF.out, e3]⟩, h2.ext⟩
  · obtain ⟨_, ⟨_, _, k1, _⟩, ⟨_, _, k2, _⟩, ⟨c, h, k3, k4, k5, k6⟩, _⟩ := hkn
    have HK5 := Lib.hid k5
    have HK6 := Lib.hid k6
    have HE := Lib.hid hE
    have HK4 := Lib.hid k4
    simp only [putM, k3, List.length_cons, List.length_nil, Nat.zero_add, Nat.reduceAdd, List.drop_succ_cons, List.drop_zero]
    clear x5 x3 k1 k2 k3 k4 k5 k6 hE
    go_wp2
    go_ret
    exact ⟨c, h, rfl, ⟨HE.out, fun q hq => by rw [List.mem_singleton] at hq; subst hq; exact HK5.out, fun q hq i hi => by rw [List.mem_singleton] at hq; subst hq; have : i = c := hi; rw [this]; exact HK4.out, List.pairwise_singleton _ _⟩, HK6.out⟩
set_option maxHeartbeats 1000000 in
theorem foldAll (a n : Nat) (f : Int → Option Bool) (S : Int → Prop) (R : List ByteArray) (pr : Option Addr) (nr cr : Nat) (b5 b3 : Nat) (p : Option Addr) (np cp : Nat) (hs : List Hd) (L : List Po) (w : World) (hA : MapI Try.prog 3 EB a n f w) (hf : ∀ x, f x = some true ↔ S x)
    (hR : Rd w 1 pr nr (encS R)) (h5 : w.cell? ⟨b5, 0, none⟩ = some (.func (.func 62) #[] #[])) (h3 : w.cell? ⟨b3, 0, none⟩ = some (.slice p np cp)) (hL : RdP w p np hs L) (hok : PoOk L) (hn : n + 1000 * nr ≤ 400000) :
    Calls Try.prog 97 #[.map (some a), .slice pr nr cr, .func (.func 98) #[] #[.pointer (some ⟨b5, 0, none⟩), .pointer (some ⟨b3, 0, none⟩)]] w fun e w' => ∃ c h, e = .returned (.map (some c)) ∧ MapI Try.prog 3 EB c (n + 1000 * nr) h w' ∧ Ext w w' ∧ ∀ x, h x = some true ↔ (S x ∧ ∀ u ∈ R, x ∈ findL L u) := by
  have p1 := hR.ptr
  have n1 := hR.small
  have l1 := hR.nS
  have HA := Lib.hid hA; clear hA
  have HF := Lib.hid hf; clear hf
  have HL := Lib.hid hL; clear hL
  have HOK := Lib.hid hok; clear hok
  have HR := Lib.hid hR; clear hR
  have L1 := Lib.hid l1; clear l1
  have H5 := Lib.hid h5; clear h5
  have H3 := Lib.hid h3; clear h3
  go_enter Try.func97, Try.ntmps97
  go_wp2
  go_loopw [0, 8, 11] (fun v _ i wr => ∃ (k b : Nat) (g : Int → Option Bool), k ≤ nr ∧ i = .int .i64 k ∧ v = .map (some b) ∧ Ext w wr ∧ MapI Try.prog 3 EB b (n + 1000 * k) g wr ∧ ∀ x, g x = some true ↔ (S x ∧ ∀ u ∈ R.take k, x ∈ findL L u)) (fun _ _ i _ => nr - (intOf i).toNat)
  case atStart => exact ⟨0, a, f, Nat.zero_le _, rfl, rfl, Below.refl _ _, HA.out, fun x => by rw [HF.out]; simp⟩
  case round =>
    obtain ⟨k, b, g, hk, rfl, rfl, hE, hM, hg⟩ := hrel
    have HE := Lib.hid hE; clear hE
    have HM := Lib.hid hM; clear hM
    have HG := Lib.hid hg; clear hg
    by_cases hlt : k < nr
    · have g1 := HE.out.cell (HR.out.cS hlt)
      have d1 : (0:Int) ≤ k := by omega
      have d2 : (k:Int) < nr := by omega
      go_wp2_with (go_at_call 98; go_must (refine (closAll b (n + 1000 * k) g _ (nth R k) b5 b3 p np cp hs L _ HM.out HG.out (HE.out.cell H5.out) (HE.out.cell H3.out) (HL.out.ext HE.out) HOK.out (by omega)).mono ?_; rintro e w2 ⟨c, h, rfl, S1, hh⟩; have S2 := Lib.hid S1; have HH := Lib.hid hh; clear S1 hh))
      go_roundw
      case rel => exact ⟨k + 1, c, h, by omega, by go_num, rfl, Ext.trans HE.out S2.out.ext, (S2.out.map 0 rfl).mono (by omega), fun x => by
        rw [HH.out, take_succ_nth R k (by rw [← L1.out]; exact hlt)]
        constructor
        · rintro ⟨⟨h1, h2⟩, h3⟩
          refine ⟨h1, fun u hu => ?_⟩
          rcases List.mem_append.1 hu with h | h
          · exact h2 u h
          · rw [List.mem_singleton] at h; subst h; exact h3
        · rintro ⟨h1, h2⟩
          exact ⟨⟨h1, fun u hu => h2 u (List.mem_append_left _ hu)⟩, h2 _ (by simp)⟩⟩
      case measure => simp [intOf]; omega
    · obtain rfl : k = nr := by omega
      go_wp2
      go_ret
      exact ⟨b, g, rfl, HM.out, HE.out, fun x => by rw [HG.out, List.take_of_length_le (by rw [← L1.out]; omega)]⟩
/-- the places of all words -/
def allS (L : List Po) (ws : List ByteArray) : List Int := putAll ltI ((findL L (nth ws 0)).filter fun x => ws.all fun u => (findL L u).contains x)
theorem allS_mem {L : List Po} {ws : List ByteArray} {x : Int} (h : 0 < ws.length) : (x ∈ (findL L (nth ws 0)).filter fun x => ws.all fun u => (findL L u).contains x) ↔ (x ∈ findL L (nth ws 0) ∧ ∀ u ∈ ws.drop 1, x ∈ findL L u) := by
  rw [List.mem_filter, List.all_eq_true]
  constructor
  · rintro ⟨h1, h2⟩
    exact ⟨h1, fun u hu => by have := h2 u (List.mem_of_mem_drop hu); simpa using this⟩
  · rintro ⟨h1, h2⟩
    refine ⟨h1, fun u hu => ?_⟩
    rw [← List.take_append_drop 1 ws] at hu
    rcases List.mem_append.1 hu with hu | hu
    · have : u = nth ws 0 := by
        have e : ws.take 1 = [nth ws 0] := by rw [take_succ_nth ws 0 h]; simp
        rw [e] at hu; simpa using hu
      rw [this]; simpa using h1
    · simpa using h2 u hu
def FouAll (L : List Po) (ws : List ByteArray) (nr : Nat) (i : Nat) (v : Value) (W : World) : Prop :=
  match i with
  | 4 => ∃ q c, v = .slice q (findL L (nth ws 0)).length c ∧ Rd W 1 q (findL L (nth ws 0)).length (encI (findL L (nth ws 0)))
  | 5 => ∃ b f, v = .map (some b) ∧ MapI Try.prog 3 EB b 1000 f W ∧ ∀ x, f x = some true ↔ x ∈ findL L (nth ws 0)
  | 9 => ∃ b f, v = .map (some b) ∧ MapI Try.prog 3 EB b (1000 + 1000 * nr) f W ∧ ∀ x, f x = some true ↔ (x ∈ findL L (nth ws 0) ∧ ∀ u ∈ ws.drop 1, x ∈ findL L u)
  | _ => True
theorem FouAll_mono {L : List Po} {ws : List ByteArray} {nr : Nat} : ∀ i v W W', Ext W W' → FouAll L ws nr i v W → FouAll L ws nr i v W' := by
  intro i v W W' he h
  unfold FouAll at *
  split at h
  · obtain ⟨q, c, h1, h2⟩ := h; exact ⟨q, c, h1, h2.ext he⟩
  · obtain ⟨b, f, h1, h2, h3⟩ := h; exact ⟨b, f, h1, h2.ext he, h3⟩
  · obtain ⟨b, f, h1, h2, h3⟩ := h; exact ⟨b, f, h1, h2.ext he, h3⟩
  · trivial
set_option maxRecDepth 100000 in
set_option maxHeartbeats 2000000 in
theorem foundAll (p : Option Addr) (np cp : Nat) (hs : List Hd) (L : List Po) (pr : Option Addr) (nr cr : Nat) (ws : List ByteArray) (w : World) (hL : RdP w p np hs L) (hok : PoOk L) (hR : Rd w 1 pr nr (encS ws)) (hcr : nr ≤ cr) (h0 : 0 < nr) (hn : nr ≤ 100) :
    Calls Try.prog 61 #[.slice p np cp, .slice pr nr cr, .func (.func 62) #[] #[]] w fun e w' => ∃ q c, e = .returned (.tuple #[.slice q (allS L ws).length c, .int .i64 0]) ∧ Sep w w' [.own 3 1 q (allS L ws).length c (encI (allS L ws))] := by
  obtain ⟨l0, hl0⟩ : ∃ l0, l0 = (findL L (nth ws 0)).filter fun x => ws.all fun u => (findL L u).contains x := ⟨_, rfl⟩
  have hal : allS L ws = putAll ltI l0 := by rw [hl0]; rfl
  rw [hal]
  have HMEM : Hid (∀ x, x ∈ l0 ↔ (x ∈ findL L (nth ws 0) ∧ ∀ u ∈ ws.drop 1, x ∈ findL L u)) := fun x => by rw [hl0]; exact allS_mem (by rw [← hR.nS]; exact h0)
  clear hal hl0
  have HFO := Lib.hid (findL_ok hok (nth ws 0))
  have p1 := hR.ptr
  have n1 := hR.small
  have g1 := hR.cS h0
  have HRC : Hid (Rd w 1 (cutp pr cr 1 1) (nr - 1) (encS (ws.drop 1))) := by
    have := hR.cut (l := 1) (h := nr) (by omega) (Nat.le_refl _) hcr
    rw [encS_drop, List.take_of_length_le (by rw [encS_len, List.length_drop, hR.nS]; omega)] at this
    exact this
  have L1 := Lib.hid hR.nS
  clear hR
  have HL := Lib.hid hL; clear hL
  have HOK := Lib.hid hok; clear hok
  have S0 := Lib.hid (((Sep.start w).al #[.slice p np cp] 28 w.heap.size rfl).al #[.func (.func 62) #[] #[]] 77 (w.heap.size + 1) (by simp))
  have hne : ((nr : Int) == 0) = false := by simp; omega
  have d1 : (1:Int) ≤ nr := by omega
  have d2 : (0:Int) < nr := by omega
  have d3 : (nr:Int) ≤ cr := by omega
  go_enter Try.func61, Try.ntmps61
  go_wp2
  obtain ⟨X, hX⟩ : ∃ X, X = ((w.alloc (.cells #[.slice p np cp] 28)).alloc (.cells #[.func (.func 62) #[] #[]] 77)) := ⟨_, rfl⟩
  have SX := S0.out
  rw [← hX] at SX ⊢
  have HX := Lib.hid SX.ext
  have c3 := (SX.blk 1 rfl).cell 0
  have c5 := (SX.blk 0 rfl).cell 0
  have g2 := HX.out.cell g1
  clear hX S0 g1 SX
  have H3 : Hid (X.cell? ⟨w.heap.size, 0, none⟩ = some (.slice p np cp)) := c3
  have H5 : Hid (X.cell? ⟨w.heap.size + 1, 0, none⟩ = some (.func (.func 62) #[] #[])) := c5
  have x3 := fun x : ExtOf X => x.ext.cell c3
  have x5 := fun x : ExtOf X => x.ext.cell c5
  have xg := fun x : ExtOf X => x.ext.cell g2
  refine wp_region_mix [true, true, true, true, false, false, true, true, true, false] (FouAll L ws nr) (by kernel_rfl) (by kernel_rfl) (by kernel_rfl) FouAll_mono ?_
  simp only [nfM]
  repeat (go_big_quiet_step ((fail)))
  refine wpQuiet_nil ⟨⟨fun vs W hE hd => ?_, fun vs W hE hd => ?_, fun vs W hE hd => ?_, trivial⟩, fun vs W hE hkn => ?_⟩
  · simp [putM, go_sem]
    exact (FindG p np cp hs L _ W ((HL.out.ext HX.out).ext hE) HOK.out).mono fun e w' ⟨q, c, h1, h2⟩ => ⟨_, h1, ⟨q, c, rfl, h2.rd 0 rfl (by have := HFO.out.1; omega)⟩, h2.ext⟩
  · obtain ⟨q, c, e1, e2⟩ := hd 4 (by decide) rfl
    simp [putM, go_sem, e1]
    exact (ofG q _ c _ W e2 HFO.out.2 (by have := HFO.out.1; omega)).mono fun e w' ⟨b, g, h1, h2, h3⟩ => ⟨_, h1, ⟨b, g, rfl, (h2.map 0 rfl).mono HFO.out.1, h3⟩, h2.ext⟩
  · obtain ⟨b, g, e1, e2, e3⟩ := hd 5 (by decide) rfl
    simp [putM, go_sem, e1]
    exact (foldAll b 1000 g _ (ws.drop 1) (cutp pr cr 1 1) (nr - 1) (cr - 1) (w.heap.size + 1) w.heap.size p np cp hs L W e2 e3 ((HRC.out.ext HX.out).ext hE) (hE.cell H5.out) (hE.cell H3.out) ((HL.out.ext HX.out).ext hE) HOK.out (by omega)).mono fun e w' ⟨c, h, h1, h2, h3, h4⟩ => ⟨_, h1, ⟨c, h, rfl, h2.mono (by omega), h4⟩, h3⟩
  · obtain ⟨⟨_, _, k1, _⟩, ⟨_, _, k2, _⟩, ⟨b, f, k3, k4, k5⟩, _⟩ := hkn
    have HK4 := Lib.hid k4
    have HE := Lib.hid (Ext.trans HX.out hE)
    have HK5 : Hid (∀ x, f x = some true ↔ x ∈ l0) := fun x => by rw [k5, HMEM.out]
    simp only [putM, k1, k2, k3, List.length_cons, List.length_nil, Nat.zero_add, Nat.reduceAdd, List.drop_succ_cons, List.drop_zero]
    clear x5 x3 xg k1 k2 k3 k4 k5 hE c3 c5 g2
    go_wp2_with (go_at_call 73; go_must (refine (risingG b _ f _ _ HK4.out HK5.out (by omega)).mono ?_; rintro e w2 ⟨q, c, rfl, S1⟩; have S2 := Lib.hid (((Sep.start w).call HE.out).comp S1); clear S1))
    go_ret2
    exact ⟨q, c, rfl, S2.out⟩
theorem foundAll0 (p : Option Addr) (np cp : Nat) (pr : Option Addr) (cr : Nat) (w : World) :
    Calls Try.prog 61 #[.slice p np cp, .slice pr 0 cr, .func (.func 62) #[] #[]] w fun e w' => e = .returned (.tuple #[.slice none 0 0, .int .i64 1]) ∧ Ext w w' := by
  go_enter Try.func61, Try.ntmps61
  go_wp2
  go_ret2
  exact ⟨rfl, Ext.alloc (Ext.alloc (Below.refl _ _) _) _⟩
end Go.Proofs.Ytcjkechemjdboaa
/- The program's found, by join: the closures, and all that they make. (Made of FndA by gen2.py.) -/
namespace Go.Proofs.Ytcjkechemjdboaa
open Go Go.RowKit Go.Maps
theorem methAny (a : Nat) (w : World) : Calls Try.prog 64 #[.map (some a)] w fun e w' => e = .returned (.func (.func 65) #[.map (some a)] #[]) ∧ Ext w w' := by
  go_enter Try.func64, Try.ntmps64
  go_wp2
  go_ret
  exact ⟨rfl, Below.refl _ _⟩
/-- what the free operations of the closure's region tell -/
def CloAny (w : World) (L : List Po) (s : ByteArray) (S : Int → Prop) (a n : Nat) (i : Nat) (v : Value) (W : World) : Prop :=
  match i with
  | 2 => v = .func (.func 65) #[.map (some a)] #[]
  | 5 => ∃ q c, v = .slice q (findL L s).length c ∧ Rd W 1 q (findL L s).length (encI (findL L s))
  | 6 => ∃ b f, v = .map (some b) ∧ MapI Try.prog 3 EB b 1000 f W ∧ ∀ x, f x = some true ↔ x ∈ findL L s
  | 7 => ∃ b f, v = .map (some b) ∧ w.heap.size ≤ b ∧ MapI Try.prog 3 EB b (n + 1000) f W ∧ ∀ x, f x = some true ↔ (S x ∨ x ∈ findL L s)
  | _ => True
theorem CloAny_mono {w : World} {L : List Po} {s : ByteArray} {S : Int → Prop} {a n : Nat} : ∀ i v W W', Ext W W' → CloAny w L s S a n i v W → CloAny w L s S a n i v W' := by
  intro i v W W' he h
  unfold CloAny at *
  split at h
  · exact h
  · obtain ⟨q, c, h1, h2⟩ := h; exact ⟨q, c, h1, h2.ext he⟩
  · obtain ⟨b, f, h1, h2, h3⟩ := h; exact ⟨b, f, h1, h2.ext he, h3⟩
  · obtain ⟨b, f, h1, h0, h2, h3⟩ := h; exact ⟨b, f, h1, h0, h2.ext he, h3⟩
  · trivial
set_option maxRecDepth 100000 in
set_option maxHeartbeats 1000000 in
theorem closAny (a n : Nat) (f : Int → Option Bool) (S : Int → Prop) (s : ByteArray) (b5 b3 : Nat) (p : Option Addr) (np cp : Nat) (hs : List Hd) (L : List Po) (w : World) (hA : MapI Try.prog 3 EB a n f w) (hf : ∀ x, f x = some true ↔ S x)
    (h5 : w.cell? ⟨b5, 0, none⟩ = some (.func (.func 64) #[] #[])) (h3 : w.cell? ⟨b3, 0, none⟩ = some (.slice p np cp)) (hL : RdP w p np hs L) (hok : PoOk L) (hn : n ≤ 500000) :
    Calls Try.prog 98 #[.map (some a), .string s, .pointer (some ⟨b5, 0, none⟩), .pointer (some ⟨b3, 0, none⟩)] w fun e w' => ∃ c h, e = .returned (.map (some c)) ∧ Sep w w' [.map Try.prog 3 EB c (n + 1000) h] ∧ ∀ x, h x = some true ↔ (S x ∨ x ∈ findL L s) := by
  have HFO := Lib.hid (findL_ok hok s)
  have HA := Lib.hid hA; clear hA
  have HF := Lib.hid hf; clear hf
  have HL := Lib.hid hL; clear hL
  have HOK := Lib.hid hok; clear hok
  have x5 := fun x : ExtOf w => x.ext.cell h5
  have x3 := fun x : ExtOf w => x.ext.cell h3
  go_enter Try.func98, Try.ntmps98
  go_wp2
  refine wp_region_mix [true, true, false, true, true, false, false, false] (CloAny w L s S a n) (by kernel_rfl) (by kernel_rfl) (by kernel_rfl) CloAny_mono ?_
  simp only [nfM]
  repeat (go_big_quiet_step ((fail)))
  refine wpQuiet_nil ⟨⟨fun vs W hE hd => ?_, fun vs W hE hd => ?_, fun vs W hE hd => ?_, fun vs W hE hd => ?_, trivial⟩, fun vs W hE hkn => ?_⟩
  · simp [putM, execOp, go_sem]
    exact (methAny a W).mono fun e w' ⟨h1, h2⟩ => ⟨_, h1, rfl, h2⟩
  · simp [putM, go_sem]
    exact (FindG p np cp hs L s W (HL.out.ext hE) HOK.out).mono fun e w' ⟨q, c, h1, h2⟩ => ⟨_, h1, ⟨q, c, rfl, h2.rd 0 rfl (by have := HFO.out.1; omega)⟩, h2.ext⟩
  · obtain ⟨q, c, e1, e2⟩ := hd 5 (by decide) rfl
    simp [putM, go_sem, e1]
    exact (ofG q _ c (findL L s) W e2 HFO.out.2 (by have := HFO.out.1; omega)).mono fun e w' ⟨b, g, h1, h2, h3⟩ => ⟨_, h1, ⟨b, g, rfl, (h2.map 0 rfl).mono HFO.out.1, h3⟩, h2.ext⟩
  · have e0 : vs 2 = _ := hd 2 (by decide) rfl
    obtain ⟨b, g, e1, e2, e3⟩ := hd 6 (by decide) rfl
    simp [putM, execOp, go_sem, e0, e1]
    exact (joinG a b n 1000 f g W (HA.out.ext hE) e2 (by omega) (by omega)).mono fun e w' ⟨c, h, h1, h2, h3⟩ => ⟨_, h1, ⟨c, h, rfl, Nat.le_trans hE.size (h2.new _ (List.mem_singleton.2 rfl) c rfl), (h2.map 0 rfl).mono (by omega), fun x => by rw [h3, HF.out, e3]⟩, h2.ext⟩
  · obtain ⟨_, ⟨_, _, k1, _⟩, ⟨_, _, k2, _⟩, ⟨c, h, k3, k4, k5, k6⟩, _⟩ := hkn
    have HK5 := Lib.hid k5
    have HK6 := Lib.hid k6
    have HE := Lib.hid hE
    have HK4 := Lib.hid k4
    simp only [putM, k3, List.length_cons, List.length_nil, Nat.zero_add, Nat.reduceAdd, List.drop_succ_cons, List.drop_zero]
    clear x5 x3 k1 k2 k3 k4 k5 k6 hE
    go_wp2
    go_ret
    exact ⟨c, h, rfl, ⟨HE.out, fun q hq => by rw [List.mem_singleton] at hq; subst hq; exact HK5.out, fun q hq i hi => by rw [List.mem_singleton] at hq; subst hq; have : i = c := hi; rw [this]; exact HK4.out, List.pairwise_singleton _ _⟩, HK6.out⟩
set_option maxHeartbeats 1000000 in
theorem foldAny (a n : Nat) (f : Int → Option Bool) (S : Int → Prop) (R : List ByteArray) (pr : Option Addr) (nr cr : Nat) (b5 b3 : Nat) (p : Option Addr) (np cp : Nat) (hs : List Hd) (L : List Po) (w : World) (hA : MapI Try.prog 3 EB a n f w) (hf : ∀ x, f x = some true ↔ S x)
    (hR : Rd w 1 pr nr (encS R)) (h5 : w.cell? ⟨b5, 0, none⟩ = some (.func (.func 64) #[] #[])) (h3 : w.cell? ⟨b3, 0, none⟩ = some (.slice p np cp)) (hL : RdP w p np hs L) (hok : PoOk L) (hn : n + 1000 * nr ≤ 400000) :
    Calls Try.prog 97 #[.map (some a), .slice pr nr cr, .func (.func 98) #[] #[.pointer (some ⟨b5, 0, none⟩), .pointer (some ⟨b3, 0, none⟩)]] w fun e w' => ∃ c h, e = .returned (.map (some c)) ∧ MapI Try.prog 3 EB c (n + 1000 * nr) h w' ∧ Ext w w' ∧ ∀ x, h x = some true ↔ (S x ∨ ∃ u ∈ R, x ∈ findL L u) := by
  have p1 := hR.ptr
  have n1 := hR.small
  have l1 := hR.nS
  have HA := Lib.hid hA; clear hA
  have HF := Lib.hid hf; clear hf
  have HL := Lib.hid hL; clear hL
  have HOK := Lib.hid hok; clear hok
  have HR := Lib.hid hR; clear hR
  have L1 := Lib.hid l1; clear l1
  have H5 := Lib.hid h5; clear h5
  have H3 := Lib.hid h3; clear h3
  go_enter Try.func97, Try.ntmps97
  go_wp2
  go_loopw [0, 8, 11] (fun v _ i wr => ∃ (k b : Nat) (g : Int → Option Bool), k ≤ nr ∧ i = .int .i64 k ∧ v = .map (some b) ∧ Ext w wr ∧ MapI Try.prog 3 EB b (n + 1000 * k) g wr ∧ ∀ x, g x = some true ↔ (S x ∨ ∃ u ∈ R.take k, x ∈ findL L u)) (fun _ _ i _ => nr - (intOf i).toNat)
  case atStart => exact ⟨0, a, f, Nat.zero_le _, rfl, rfl, Below.refl _ _, HA.out, fun x => by rw [HF.out]; simp⟩
  case round =>
    obtain ⟨k, b, g, hk, rfl, rfl, hE, hM, hg⟩ := hrel
    have HE := Lib.hid hE; clear hE
    have HM := Lib.hid hM; clear hM
    have HG := Lib.hid hg; clear hg
    by_cases hlt : k < nr
    · have g1 := HE.out.cell (HR.out.cS hlt)
      have d1 : (0:Int) ≤ k := by omega
      have d2 : (k:Int) < nr := by omega
      go_wp2_with (go_at_call 98; go_must (refine (closAny b (n + 1000 * k) g _ (nth R k) b5 b3 p np cp hs L _ HM.out HG.out (HE.out.cell H5.out) (HE.out.cell H3.out) (HL.out.ext HE.out) HOK.out (by omega)).mono ?_; rintro e w2 ⟨c, h, rfl, S1, hh⟩; have S2 := Lib.hid S1; have HH := Lib.hid hh; clear S1 hh))
      go_roundw
      case rel => exact ⟨k + 1, c, h, by omega, by go_num, rfl, Ext.trans HE.out S2.out.ext, (S2.out.map 0 rfl).mono (by omega), fun x => by
        rw [HH.out, take_succ_nth R k (by rw [← L1.out]; exact hlt)]
        simp only [List.mem_append, List.mem_singleton]
        constructor
        · rintro ((h1 | ⟨u, hu, h2⟩) | h3)
          · exact .inl h1
          · exact .inr ⟨u, .inl hu, h2⟩
          · exact .inr ⟨_, .inr rfl, h3⟩
        · rintro (h1 | ⟨u, hu | hu, h2⟩)
          · exact .inl (.inl h1)
          · exact .inl (.inr ⟨u, hu, h2⟩)
          · subst hu; exact .inr h2⟩
      case measure => simp [intOf]; omega
    · obtain rfl : k = nr := by omega
      go_wp2
      go_ret
      exact ⟨b, g, rfl, HM.out, HE.out, fun x => by rw [HG.out, List.take_of_length_le (by rw [← L1.out]; omega)]⟩
/-- the places of any word -/
def anyS (L : List Po) (ws : List ByteArray) : List Int := putAll ltI (ws.flatMap (findL L))
theorem anyS_mem {L : List Po} {ws : List ByteArray} {x : Int} (h : 0 < ws.length) : (x ∈ ws.flatMap (findL L)) ↔ (x ∈ findL L (nth ws 0) ∨ ∃ u ∈ ws.drop 1, x ∈ findL L u) := by
  have e : ws = nth ws 0 :: ws.drop 1 := by
    have := drop_nth ws 0 h
    rwa [List.drop_zero] at this
  conv => lhs; rw [e]
  rw [List.flatMap_cons, List.mem_append, List.mem_flatMap]
def FouAny (L : List Po) (ws : List ByteArray) (nr : Nat) (i : Nat) (v : Value) (W : World) : Prop :=
  match i with
  | 4 => ∃ q c, v = .slice q (findL L (nth ws 0)).length c ∧ Rd W 1 q (findL L (nth ws 0)).length (encI (findL L (nth ws 0)))
  | 5 => ∃ b f, v = .map (some b) ∧ MapI Try.prog 3 EB b 1000 f W ∧ ∀ x, f x = some true ↔ x ∈ findL L (nth ws 0)
  | 9 => ∃ b f, v = .map (some b) ∧ MapI Try.prog 3 EB b (1000 + 1000 * nr) f W ∧ ∀ x, f x = some true ↔ (x ∈ findL L (nth ws 0) ∨ ∃ u ∈ ws.drop 1, x ∈ findL L u)
  | _ => True
theorem FouAny_mono {L : List Po} {ws : List ByteArray} {nr : Nat} : ∀ i v W W', Ext W W' → FouAny L ws nr i v W → FouAny L ws nr i v W' := by
  intro i v W W' he h
  unfold FouAny at *
  split at h
  · obtain ⟨q, c, h1, h2⟩ := h; exact ⟨q, c, h1, h2.ext he⟩
  · obtain ⟨b, f, h1, h2, h3⟩ := h; exact ⟨b, f, h1, h2.ext he, h3⟩
  · obtain ⟨b, f, h1, h2, h3⟩ := h; exact ⟨b, f, h1, h2.ext he, h3⟩
  · trivial
set_option maxRecDepth 100000 in
set_option maxHeartbeats 2000000 in
theorem foundAny (p : Option Addr) (np cp : Nat) (hs : List Hd) (L : List Po) (pr : Option Addr) (nr cr : Nat) (ws : List ByteArray) (w : World) (hL : RdP w p np hs L) (hok : PoOk L) (hR : Rd w 1 pr nr (encS ws)) (hcr : nr ≤ cr) (h0 : 0 < nr) (hn : nr ≤ 100) :
    Calls Try.prog 61 #[.slice p np cp, .slice pr nr cr, .func (.func 64) #[] #[]] w fun e w' => ∃ q c, e = .returned (.tuple #[.slice q (anyS L ws).length c, .int .i64 0]) ∧ Sep w w' [.own 3 1 q (anyS L ws).length c (encI (anyS L ws))] := by
  obtain ⟨l0, hl0⟩ : ∃ l0, l0 = ws.flatMap (findL L) := ⟨_, rfl⟩
  have hal : anyS L ws = putAll ltI l0 := by rw [hl0]; rfl
  rw [hal]
  have HMEM : Hid (∀ x, x ∈ l0 ↔ (x ∈ findL L (nth ws 0) ∨ ∃ u ∈ ws.drop 1, x ∈ findL L u)) := fun x => by rw [hl0]; exact anyS_mem (by rw [← hR.nS]; exact h0)
  clear hal hl0
  have HFO := Lib.hid (findL_ok hok (nth ws 0))
  have p1 := hR.ptr
  have n1 := hR.small
  have g1 := hR.cS h0
  have HRC : Hid (Rd w 1 (cutp pr cr 1 1) (nr - 1) (encS (ws.drop 1))) := by
    have := hR.cut (l := 1) (h := nr) (by omega) (Nat.le_refl _) hcr
    rw [encS_drop, List.take_of_length_le (by rw [encS_len, List.length_drop, hR.nS]; omega)] at this
    exact this
  have L1 := Lib.hid hR.nS
  clear hR
  have HL := Lib.hid hL; clear hL
  have HOK := Lib.hid hok; clear hok
  have S0 := Lib.hid (((Sep.start w).al #[.slice p np cp] 28 w.heap.size rfl).al #[.func (.func 64) #[] #[]] 77 (w.heap.size + 1) (by simp))
  have hne : ((nr : Int) == 0) = false := by simp; omega
  have d1 : (1:Int) ≤ nr := by omega
  have d2 : (0:Int) < nr := by omega
  have d3 : (nr:Int) ≤ cr := by omega
  go_enter Try.func61, Try.ntmps61
  go_wp2
  obtain ⟨X, hX⟩ : ∃ X, X = ((w.alloc (.cells #[.slice p np cp] 28)).alloc (.cells #[.func (.func 64) #[] #[]] 77)) := ⟨_, rfl⟩
  have SX := S0.out
  rw [← hX] at SX ⊢
  have HX := Lib.hid SX.ext
  have c3 := (SX.blk 1 rfl).cell 0
  have c5 := (SX.blk 0 rfl).cell 0
  have g2 := HX.out.cell g1
  clear hX S0 g1 SX
  have H3 : Hid (X.cell? ⟨w.heap.size, 0, none⟩ = some (.slice p np cp)) := c3
  have H5 : Hid (X.cell? ⟨w.heap.size + 1, 0, none⟩ = some (.func (.func 64) #[] #[])) := c5
  have x3 := fun x : ExtOf X => x.ext.cell c3
  have x5 := fun x : ExtOf X => x.ext.cell c5
  have xg := fun x : ExtOf X => x.ext.cell g2
  refine wp_region_mix [true, true, true, true, false, false, true, true, true, false] (FouAny L ws nr) (by kernel_rfl) (by kernel_rfl) (by kernel_rfl) FouAny_mono ?_
  simp only [nfM]
  repeat (go_big_quiet_step ((fail)))
  refine wpQuiet_nil ⟨⟨fun vs W hE hd => ?_, fun vs W hE hd => ?_, fun vs W hE hd => ?_, trivial⟩, fun vs W hE hkn => ?_⟩
  · simp [putM, go_sem]
    exact (FindG p np cp hs L _ W ((HL.out.ext HX.out).ext hE) HOK.out).mono fun e w' ⟨q, c, h1, h2⟩ => ⟨_, h1, ⟨q, c, rfl, h2.rd 0 rfl (by have := HFO.out.1; omega)⟩, h2.ext⟩
  · obtain ⟨q, c, e1, e2⟩ := hd 4 (by decide) rfl
    simp [putM, go_sem, e1]
    exact (ofG q _ c _ W e2 HFO.out.2 (by have := HFO.out.1; omega)).mono fun e w' ⟨b, g, h1, h2, h3⟩ => ⟨_, h1, ⟨b, g, rfl, (h2.map 0 rfl).mono HFO.out.1, h3⟩, h2.ext⟩
  · obtain ⟨b, g, e1, e2, e3⟩ := hd 5 (by decide) rfl
    simp [putM, go_sem, e1]
    exact (foldAny b 1000 g _ (ws.drop 1) (cutp pr cr 1 1) (nr - 1) (cr - 1) (w.heap.size + 1) w.heap.size p np cp hs L W e2 e3 ((HRC.out.ext HX.out).ext hE) (hE.cell H5.out) (hE.cell H3.out) ((HL.out.ext HX.out).ext hE) HOK.out (by omega)).mono fun e w' ⟨c, h, h1, h2, h3, h4⟩ => ⟨_, h1, ⟨c, h, rfl, h2.mono (by omega), h4⟩, h3⟩
  · obtain ⟨⟨_, _, k1, _⟩, ⟨_, _, k2, _⟩, ⟨b, f, k3, k4, k5⟩, _⟩ := hkn
    have HK4 := Lib.hid k4
    have HE := Lib.hid (Ext.trans HX.out hE)
    have HK5 : Hid (∀ x, f x = some true ↔ x ∈ l0) := fun x => by rw [k5, HMEM.out]
    simp only [putM, k1, k2, k3, List.length_cons, List.length_nil, Nat.zero_add, Nat.reduceAdd, List.drop_succ_cons, List.drop_zero]
    clear x5 x3 xg k1 k2 k3 k4 k5 hE c3 c5 g2
    go_wp2_with (go_at_call 73; go_must (refine (risingG b _ f _ _ HK4.out HK5.out (by omega)).mono ?_; rintro e w2 ⟨q, c, rfl, S1⟩; have S2 := Lib.hid (((Sep.start w).call HE.out).comp S1); clear S1))
    go_ret2
    exact ⟨q, c, rfl, S2.out⟩
theorem foundAny0 (p : Option Addr) (np cp : Nat) (pr : Option Addr) (cr : Nat) (w : World) :
    Calls Try.prog 61 #[.slice p np cp, .slice pr 0 cr, .func (.func 64) #[] #[]] w fun e w' => e = .returned (.tuple #[.slice none 0 0, .int .i64 1]) ∧ Ext w w' := by
  go_enter Try.func61, Try.ntmps61
  go_wp2
  go_ret2
  exact ⟨rfl, Ext.alloc (Ext.alloc (Below.refl _ _) _) _⟩
end Go.Proofs.Ytcjkechemjdboaa
/- The reference's answers of chapter 5: In, Both, All, Any; Ints. -/
namespace Go.Proofs.Ytcjkechemjdboaa
open Go Go.RowKit Go.Maps
set_option maxHeartbeats 400000 in
theorem Ints01 (p q : Option Addr) (n m c d : Nat) (ss ts : List Int) (w : World) (hs : Rd w 1 p n (encI ss)) (ht : Rd w 1 q m (encI ts)) :
    Calls Try.prog 24 #[.slice p n c, .slice q m d] w fun e w' => e = .returned (.bool (decide (ss = ts))) ∧ Ext w w' := by
  have hp := hs.ptr
  have hq := ht.ptr
  have hn := hs.small
  have hm := ht.small
  have HS := Lib.hid hs; clear hs
  have HT := Lib.hid ht; clear ht
  have L1 := Lib.hid HS.out.nI
  have L2 := Lib.hid HT.out.nI
  by_cases hnm : n = m
  · subst hnm
    have hl := Lib.hid (L1.out.symm.trans L2.out)
    go_enter Try.func24, Try.ntmps24
    go_wp2
    go_loopw [5] (fun i wr => ∃ k : Nat, k ≤ n ∧ i = .int .i64 k ∧ ss.take k = ts.take k ∧ Ext w wr) (fun i _ => n - (intOf i).toNat)
    case atStart => exact ⟨0, Nat.zero_le _, rfl, rfl, Below.refl _ _⟩
    case round =>
      obtain ⟨k, hk, rfl, he, hb⟩ := hrel
      have HE := Lib.hid he; clear he
      have HB := Lib.hid hb; clear hb
      by_cases hlt : k < n
      · have g3 := HB.out.cell (HS.out.cI hlt)
        have g4 := HB.out.cell (HT.out.cI hlt)
        have d1 : (0:Int) ≤ k := by omega
        have d2 : (k:Int) < n := by omega
        by_cases hne : nth ss k = nth ts k
        · have hb1 : (nth ss k != nth ts k) = false := by simp [hne]
          have HN := Lib.hid hne; clear hne
          go_wp2
          go_quiet (fail)
          go_wp2
          go_roundw
          case rel => exact ⟨k + 1, by omega, by go_num, eq_step hl.out (by rw [← L1.out]; exact hlt) HE.out HN.out, HB.out.drewN _⟩
          case measure => simp [intOf]; omega
        · have hb1 : (nth ss k != nth ts k) = true := by simp [hne]
          have HN := Lib.hid hne; clear hne
          go_wp2
          go_quiet (fail)
          go_wp2
          go_ret
          exact ⟨ret_bool (by rw [decide_eq_false (eq_no hl.out (by rw [← L1.out]; exact hlt) HN.out)]), HB.out.drewN _⟩
      · go_wp2
        go_ret
        exact ⟨ret_bool (by rw [decide_eq_true (eq_end hl.out (by rw [← L1.out]; exact hlt) HE.out)]), HB.out⟩
  · have h1 : ((n : Int) != (m : Int)) = true := by rw [bne_iff_ne]; omega
    have hne : ss ≠ ts := by rintro rfl; exact hnm (L1.out.trans L2.out.symm)
    have HN := Lib.hid hne; clear hne hnm
    go_enter Try.func24, Try.ntmps24
    go_wp2
    go_ret
    exact ⟨ret_bool (by rw [decide_eq_false HN.out]), Below.refl _ _⟩
def inB (l : List Int) (x : Int) : Bool := l.any fun y => y == x
theorem inB_iff (l : List Int) (x : Int) : inB l x = true ↔ x ∈ l := by unfold inB; simp
theorem In05 (p : Option Addr) (n c : Nat) (l : List Int) (x : Int) (w : World) (hl : Rd w 1 p n (encI l)) :
    Calls Try.prog 26 #[.slice p n c, .int .i64 x] w fun e w' => e = .returned (.bool (inB l x)) ∧ w = w' := by
  have p1 := hl.ptr
  have n1 := hl.small
  have l1 := hl.nI
  have HL := Lib.hid hl; clear hl
  have L1 := Lib.hid l1; clear l1
  go_enter Try.func26, Try.ntmps26
  go_wp2
  go_loop [5] (fun i => ∃ k : Nat, k ≤ n ∧ i = .int .i64 k ∧ (l.take k).any (fun y => y == x) = false) (fun i => n - (intOf i).toNat)
  case atStart => exact ⟨0, Nat.zero_le _, rfl, rfl⟩
  case round =>
    obtain ⟨k, hk, rfl, ha⟩ := hrel
    have HA := Lib.hid ha; clear ha
    by_cases hlt : k < n
    · have g1 := HL.out.cI hlt
      have d1 : (0:Int) ≤ k := by omega
      have d2 : (k:Int) < n := by omega
      cases hq : (nth l k == x) with
      | true =>
        have HF := Lib.hid (any_true_at (fun y => y == x) l k (by rw [← L1.out]; exact hlt) hq)
        go_wp2
        go_ret
        exact ⟨ret_bool HF.out.symm, rfl⟩
      | false =>
        have HF := Lib.hid (any_step (fun y => y == x) l k (by rw [← L1.out]; exact hlt) HA.out hq)
        go_wp2
        go_round
        case rel => exact ⟨k + 1, by omega, by go_num, HF.out⟩
        case measure => simp [intOf]; omega
    · have HF := Lib.hid (any_end _ l k (by rw [← L1.out]; exact hlt) HA.out)
      go_wp2
      go_ret
      exact ⟨ret_bool HF.out.symm, rfl⟩
theorem Rising05s (p : Option Addr) (n c : Nat) (l : List Int) (w : World) (hl : Rd w 1 p n (encI l)) (hz : n ≤ 1000000) :
    Calls Try.prog 67 #[.slice p n c] w fun e w' => ∃ q c', e = .returned (.slice q (putAll ltI l).length c') ∧ Sep w w' [.own 3 1 q (putAll ltI l).length c' (encI (putAll ltI l))] :=
  (Rising05 p n c l w hl hz).mono fun _ _ ⟨q, n', c', he, hn, ho, hx⟩ => by subst hn; exact ⟨q, c', he, Sep.of_own hx ho⟩
def bothS (a b : List Int) : List Int := putAll ltI (a.filter (inB b))
theorem filter_take_succ {α : Type} [Inhabited α] (f : α → Bool) (l : List α) (k : Nat) (h : k < l.length) : (l.take (k + 1)).filter f = (l.take k).filter f ++ (if f (nth l k) then [nth l k] else []) := by
  rw [take_succ_nth l k h, List.filter_append, List.filter_cons]; rfl
theorem filter_len_le {α : Type} (f : α → Bool) (l : List α) (k : Nat) : ((l.take k).filter f).length ≤ k := Nat.le_trans (List.length_filter_le _ _) (by rw [List.length_take]; omega)
set_option maxHeartbeats 400000 in
theorem Both05 (p : Option Addr) (n c : Nat) (a : List Int) (q : Option Addr) (m d : Nat) (b : List Int) (w : World) (ha : Rd w 1 p n (encI a)) (hb : Rd w 1 q m (encI b)) (hn : n ≤ 1000000) :
    Calls Try.prog 35 #[.slice p n c, .slice q m d] w fun e w' => ∃ q c', e = .returned (.slice q (bothS a b).length c') ∧ Sep w w' [.own 3 1 q (bothS a b).length c' (encI (bothS a b))] := by
  obtain ⟨i0, hi0, hz0, hz1, hz2⟩ := info_parts infI
  have p1 := ha.ptr
  have l1 := ha.nI
  have HA := Lib.hid ha; clear ha
  have HB := Lib.hid hb; clear hb
  have L1 := Lib.hid l1; clear l1
  have S0 := Lib.hid ((Sep.start w).nilrow 3 1)
  go_enter Try.func35, Try.ntmps35
  go_wp2
  go_loopw [5, 6] (fun v i wr => ∃ (k : Nat) (u : Option Addr) (e : Nat), k ≤ n ∧ i = .int .i64 k ∧ v = .slice u ((a.take k).filter (inB b)).length e ∧ Sep w wr [.own 3 1 u ((a.take k).filter (inB b)).length e (encI ((a.take k).filter (inB b)))]) (fun _ i _ => n - (intOf i).toNat)
  case atStart => exact ⟨0, none, 0, Nat.zero_le _, rfl, rfl, S0.out⟩
  case round =>
    clear S0
    obtain ⟨k, u, e, hk, rfl, rfl, S⟩ := hrel
    have hfl := filter_len_le (inB b) a k
    by_cases hlt : k < n
    · have g1 := S.ext.cell (HA.out.cI hlt)
      have SH := Lib.hid S; clear S
      have d1 : (0:Int) ≤ k := by omega
      have d2 : (k:Int) < n := by omega
      have HT := Lib.hid (filter_take_succ (inB b) a k (by rw [← L1.out]; exact hlt))
      have HI := Lib.hid (fun W1 (h : Ext w W1) => In05 q m d b (nth a k) W1 (HB.out.ext h))
      cases hq : inB b (nth a k) with
      | true =>
        rw [hq] at HI HT
        clear hq
        go_wp2_with (first
          | (go_at_call 26; go_must (refine (HI.out _ SH.out.ext).mono ?_; rintro e1 w1 ⟨rfl, rfl⟩))
          | (at_builtin; go_must (refine wpList_append_sep rfl _ _ _ rfl 3 i0 _ 1 8 Try.underlying38 hi0 hz0 hz1 hz2 rfl (by omega) (SH.out.junk _) 0 u _ e _ rfl rfl _ 1 1 _ rfl (Rd.oneI _ _ _) (one_encI _) (by omega) (by omega) ?_; intro u' e' w2 S' hsz; have S3 := Lib.hid S'; clear S' hsz)))
        go_roundw
        case rel => exact ⟨k + 1, u', e', by omega, by go_num, by rw [HT.out]; simp, by rw [HT.out]; simp only [if_true, List.length_append, encI_append]; exact S3.out⟩
        case measure => simp [intOf]; omega
      | false =>
        rw [hq] at HI HT
        clear hq
        go_wp2_with (go_at_call 26; go_must (refine (HI.out _ SH.out.ext).mono ?_; rintro e1 w1 ⟨rfl, rfl⟩))
        go_roundw
        case rel => exact ⟨k + 1, u, e, by omega, by go_num, by rw [HT.out]; simp, by rw [HT.out]; simpa using SH.out⟩
        case measure => simp [intOf]; omega
    · obtain rfl : k = n := by omega
      have HT : Hid ((a.take k).filter (inB b) = a.filter (inB b)) := by unfold Hid; rw [List.take_of_length_le (by rw [← L1.out]; omega)]
      have hrd := S.rd 0 rfl (by omega)
      rw [HT.out] at hrd
      rw [HT.out] at hfl
      have RD := Lib.hid hrd; clear hrd
      have SH := Lib.hid S; clear S
      obtain ⟨F, hF⟩ : ∃ F, F = a.filter (inB b) := ⟨_, rfl⟩
      have HBS : Hid (bothS a b = putAll ltI F) := by unfold Hid; rw [hF]; rfl
      rw [HT.out, ← hF]
      rw [← hF] at RD hfl
      clear hF HT
      go_wp2_with (go_at_call 67; go_must (refine (Rising05s u F.length e F _ RD.out (by omega)).mono ?_; rintro e1 w1 ⟨q', c', rfl, S1⟩; have S2 := Lib.hid ((SH.out.pick [] (by decide) rfl : Sep w _ []).comp S1); clear S1))
      go_ret
      rw [HBS.out]
      exact ⟨q', c', rfl, S2.out⟩
end Go.Proofs.Ytcjkechemjdboaa
/- Rows: what the chapter says of offsets and numbers. No program in sight. -/
namespace Go.Proofs.Ytcjkechemjdboaa
open Go Go.RowKit
theorem nth_mem {α : Type} [Inhabited α] {l : List α} {k : Nat} (h : k < l.length) : nth l k ∈ l := by rw [nth_eq h]; exact List.getElem_mem _
theorem rises_nth {l : List Int} (h : Rises ltI l) {k : Nat} (hk : k + 1 < l.length) : nth l k < nth l (k + 1) := by
  rw [nth_eq (by omega), nth_eq hk]
  have := List.pairwise_iff_getElem.1 h k (k + 1) (by omega) hk (by omega)
  simpa [ltI] using this
/-- a place's row -/
def rowL (O T : List Int) (v : Nat) : List Int := (T.drop (nth O v).toNat).take ((nth O (v + 1)).toNat - (nth O v).toNat)
def rowX (O T : List Int) (v : Nat) : List (Int × Int) := (rowL O T v).map fun x => ((v : Int), x)
/-- the pairs of the first k places -/
def pairsK (O T : List Int) (k : Nat) : List (Int × Int) := (List.range k).flatMap (rowX O T)
def pairs (O T : List Int) : List (Int × Int) := pairsK O T (O.length - 1)
theorem pairsK_step (O T : List Int) (k : Nat) : pairsK O T (k + 1) = pairsK O T k ++ rowX O T k := by
  unfold pairsK; rw [List.range_succ, List.flatMap_append]; simp
/-- offsets that can be gone through -/
structure OffOk (O T : List Int) : Prop where
  two : 2 ≤ O.length
  lo : ∀ v, v < O.length → 0 ≤ nth O v
  hi : ∀ v, v < O.length → nth O v ≤ T.length
  le : ∀ v, v + 1 < O.length → nth O v ≤ nth O (v + 1)
theorem rowL_len {O T : List Int} (h : OffOk O T) {v : Nat} (hv : v + 1 < O.length) : (rowL O T v).length = (nth O (v + 1)).toNat - (nth O v).toNat := by
  have h1 := h.hi (v + 1) hv
  unfold rowL
  rw [List.length_take, List.length_drop]
  omega
theorem rowL_nth {O T : List Int} {v j : Nat} (hj : j < (rowL O T v).length) : nth (rowL O T v) j = nth T ((nth O v).toNat + j) := by
  have hl : (nth O v).toNat + j < T.length := by unfold rowL at hj; rw [List.length_take, List.length_drop] at hj; omega
  rw [nth_eq hj, nth_eq hl]
  simp only [rowL, List.getElem_take, List.getElem_drop]
/-- numbers of a row rise, each of 0 to n-1 -/
def okRow (n : Int) (l : List Int) : Bool := (List.range l.length).all (okAt n l)
theorem okRow_iff {n : Int} {l : List Int} : okRow n l = true ↔ (∀ x ∈ l, 0 ≤ x ∧ x < n) ∧ Rises ltI l := by
  unfold okRow
  rw [List.all_eq_true]
  constructor
  · intro h
    have h1 : ∀ i, i < l.length → okAt n l i = true := fun i hi => h i (List.mem_range.2 hi)
    refine ⟨fun x hx => ?_, ?_⟩
    · obtain ⟨i, hi, rfl⟩ := List.mem_iff_getElem.1 hx
      have := h1 i hi
      unfold okAt at this
      rw [nth_eq hi] at this
      simp only [Bool.and_eq_true, decide_eq_true_eq] at this
      exact this.1
    · rw [← rise_iff stoI]
      unfold riseB
      rw [List.all_eq_true]
      intro i hi
      rw [List.mem_range] at hi
      have := h1 (i + 1) (by omega)
      unfold okAt at this
      unfold riseAt ltI
      simp at this ⊢
      exact this.2
  · rintro ⟨h1, h2⟩ i hi
    rw [List.mem_range] at hi
    have h3 := h1 _ (nth_mem hi)
    unfold okAt
    rw [decide_eq_true h3.1, decide_eq_true h3.2]
    rcases Nat.eq_zero_or_pos i with h4 | h4
    · simp [h4]
    · have := rises_nth h2 (k := i - 1) (by omega)
      rw [show i - 1 + 1 = i by omega] at this
      simp [this]
def sortB (O : List Int) : Bool := (List.range (O.length - 1)).all fun v => decide (nth O v ≤ nth O (v + 1))
def offB (O T : List Int) : Bool := decide (2 ≤ O.length) && decide (O.length ≤ 201) && decide (T.length ≤ 2000) && decide (nth O 0 = 0) && decide (nth O (O.length - 1) = T.length) && sortB O
def halfB (O T : List Int) : Bool := offB O T && (List.range (O.length - 1)).all fun v => okRow ((O.length - 1 : Nat) : Int) (rowL O T v)
theorem sortB_at {O : List Int} (h : sortB O = true) {v : Nat} (hv : v + 1 < O.length) : nth O v ≤ nth O (v + 1) := by
  unfold sortB at h
  have := List.all_eq_true.1 h v (List.mem_range.2 (by omega))
  simpa using this
theorem sortB_le {O : List Int} (h : sortB O = true) : ∀ (d v : Nat), v + d < O.length → nth O v ≤ nth O (v + d)
  | 0, v, _ => Int.le_refl _
  | d + 1, v, hv => Int.le_trans (sortB_le h d v (by omega)) (sortB_at h (by omega))
theorem offB_parts {O T : List Int} (h : offB O T = true) : 2 ≤ O.length ∧ O.length ≤ 201 ∧ T.length ≤ 2000 ∧ nth O 0 = 0 ∧ nth O (O.length - 1) = T.length ∧ sortB O = true := by
  unfold offB at h
  simp only [Bool.and_eq_true, decide_eq_true_eq] at h
  obtain ⟨⟨⟨⟨⟨h1, h2⟩, h3⟩, h4⟩, h5⟩, h6⟩ := h
  exact ⟨h1, h2, h3, h4, h5, h6⟩
theorem offOk_of {O T : List Int} (h : offB O T = true) : OffOk O T := by
  obtain ⟨h1, h2, h3, h4, h5, h6⟩ := offB_parts h
  refine ⟨h1, fun v hv => ?_, fun v hv => ?_, fun v hv => sortB_at h6 hv⟩
  · have := sortB_le h6 v 0 (by omega)
    rw [h4, Nat.zero_add] at this; exact this
  · have := sortB_le h6 (O.length - 1 - v) v (by omega)
    rw [show v + (O.length - 1 - v) = O.length - 1 by omega, h5] at this; exact this
/-- are rows right? -/
def checkR (O T R V : List Int) : Bool :=
  decide (O.length = R.length) && decide (T.length = V.length) && halfB O T && halfB R V && (pairs O T).all fun x => inB (rowL R V x.2.toNat) x.1
/-! ### one number behind the other -/
def okStep (n : Int) (p x : Int × Int) : Bool := decide (0 ≤ x.2) && decide (x.2 < n) && !(decide (x.1 = p.1) && decide (x.2 ≤ p.2))
def okFrom (n : Int) : Int × Int → List (Int × Int) → Bool
  | _, [] => true
  | p, x :: l => okStep n p x && okFrom n x l
def lastP : Int × Int → List (Int × Int) → Int × Int
  | p, [] => p
  | _, x :: l => lastP x l
theorem lastP_append (p : Int × Int) : ∀ (l m : List (Int × Int)), lastP p (l ++ m) = lastP (lastP p l) m
  | [], _ => rfl
  | x :: l, m => by rw [List.cons_append, lastP, lastP, lastP_append x l m]
  termination_by l => l.length
theorem okFrom_append (n : Int) : ∀ (l : List (Int × Int)) (p : Int × Int) (m : List (Int × Int)), okFrom n p (l ++ m) = (okFrom n p l && okFrom n (lastP p l) m)
  | [], p, m => by simp [okFrom, lastP]
  | x :: l, p, m => by rw [List.cons_append, okFrom, okFrom, okFrom_append n l x m, lastP, Bool.and_assoc]
theorem okFrom_snoc (n : Int) (p : Int × Int) (l : List (Int × Int)) (x : Int × Int) : okFrom n p (l ++ [x]) = (okFrom n p l && okStep n (lastP p l) x) := by
  rw [okFrom_append]; simp [okFrom]
theorem lastP_snoc (p : Int × Int) (l : List (Int × Int)) (x : Int × Int) : lastP p (l ++ [x]) = x := by rw [lastP_append]; rfl
theorem okFrom_no {n : Int} {p : Int × Int} {l m : List (Int × Int)} (h : okFrom n p l = false) (hp : l <+: m) : okFrom n p m = false := by
  obtain ⟨t, rfl⟩ := hp
  rw [okFrom_append, h]; rfl
/-- one row, behind a pair of its own place -/
theorem okFrom_same (n v : Int) : ∀ (l : List Int) (y : Int), okFrom n (v, y) (l.map fun x => (v, x)) = true ↔ (∀ x ∈ l, 0 ≤ x ∧ x < n) ∧ Rises ltI (y :: l)
  | [], y => by simp [okFrom, Rises]
  | x :: l, y => by
    rw [List.map_cons, okFrom, Bool.and_eq_true, okFrom_same n v l x]
    unfold okStep
    simp only [decide_true, Bool.true_and, Bool.and_eq_true, decide_eq_true_eq, Bool.not_eq_true', decide_eq_false_iff_not]
    constructor
    · rintro ⟨⟨⟨h1, h2⟩, h3⟩, h4, h5⟩
      refine ⟨fun z hz => ?_, ?_⟩
      · rcases List.mem_cons.1 hz with rfl | hz
        · exact ⟨h1, h2⟩
        · exact h4 z hz
      · refine List.pairwise_cons.2 ⟨fun z hz => ?_, h5⟩
        rcases List.mem_cons.1 hz with rfl | hz
        · simp [ltI]; omega
        · have := (List.pairwise_cons.1 h5).1 z hz
          simp [ltI] at this ⊢; omega
    · rintro ⟨h1, h2⟩
      obtain ⟨h3, h4⟩ := List.pairwise_cons.1 h2
      have := h3 x (by simp)
      simp [ltI] at this
      exact ⟨⟨h1 x (by simp), by omega⟩, fun z hz => h1 z (by simp [hz]), h4⟩
theorem okFrom_row {n v : Int} {p : Int × Int} (hp : p.1 ≠ v) (l : List Int) : okFrom n p (l.map fun x => (v, x)) = okRow n l := by
  rw [Bool.eq_iff_iff, okRow_iff]
  cases l with
  | nil => simp [okFrom, Rises]
  | cons x l =>
    rw [List.map_cons, okFrom, Bool.and_eq_true, okFrom_same n v l x]
    unfold okStep
    have hne : decide (v = p.1) = false := by simp; exact fun e => hp e.symm
    simp only [hne, Bool.false_and, Bool.not_false, Bool.and_true, Bool.and_eq_true, decide_eq_true_eq]
    constructor
    · rintro ⟨h1, h2, h3⟩
      exact ⟨fun z hz => (List.mem_cons.1 hz).elim (fun e => e ▸ h1) (h2 z), h3⟩
    · rintro ⟨h1, h2⟩
      exact ⟨h1 x (by simp), fun z hz => h1 z (by simp [hz]), h2⟩
theorem lastP_row (p : Int × Int) (v : Int) : ∀ l : List Int, (lastP p (l.map fun x => (v, x))).1 = if l = [] then p.1 else v
  | [] => rfl
  | x :: l => by
    rw [List.map_cons, lastP, lastP_row (v, x) v l]
    by_cases h : l = [] <;> simp [h]
theorem lastP_lt (O T : List Int) : ∀ k : Nat, (lastP (-1, 0) (pairsK O T k)).1 < k
  | 0 => by simp [pairsK, lastP]
  | k + 1 => by
    rw [pairsK_step, lastP_append]
    unfold rowX
    rw [lastP_row]
    have := lastP_lt O T k
    split <;> omega
/-- all pairs, one behind the other, are right just if each row is -/
theorem okFrom_pairs (n : Int) (O T : List Int) : ∀ k : Nat, okFrom n (-1, 0) (pairsK O T k) = (List.range k).all fun v => okRow n (rowL O T v)
  | 0 => rfl
  | k + 1 => by
    rw [pairsK_step, okFrom_append, okFrom_pairs n O T k, List.range_succ, List.all_append]
    congr 1
    unfold rowX
    rw [okFrom_row (by have := lastP_lt O T k; omega)]
    simp
theorem halfB_pairs {O T : List Int} (h : offB O T = true) : halfB O T = okFrom ((O.length - 1 : Nat) : Int) (-1, 0) (pairs O T) := by
  unfold halfB pairs
  rw [h, okFrom_pairs, Bool.true_and]
theorem rowL_I64 {O T : List Int} {v : Nat} (h : ∀ x ∈ T, I64 x) : ∀ x ∈ rowL O T v, I64 x := fun x hx => h x (List.mem_of_mem_drop (List.mem_of_mem_take hx))
theorem mem_pairs {O T : List Int} {x : Int × Int} : x ∈ pairs O T ↔ ∃ v, v < O.length - 1 ∧ x.1 = (v : Int) ∧ x.2 ∈ rowL O T v := by
  unfold pairs pairsK rowX
  simp only [List.mem_flatMap, List.mem_range, List.mem_map]
  constructor
  · rintro ⟨v, h1, y, h2, rfl⟩; exact ⟨v, h1, rfl, h2⟩
  · rintro ⟨v, h1, h2, h3⟩; exact ⟨v, h1, x.2, h3, by rw [← h2]⟩
end Go.Proofs.Ytcjkechemjdboaa
/- A range over a function in the new style: regions that draw their order within a round; pieces of memory under the law's own book-keeping. -/
namespace Go.Proofs.Ytcjkechemjdboaa
open Go Go.RowKit
section
variable {F : Fence} {n : Nat} {P : Program}
theorem wpQuietIn_of {ops : Array Oper} {C : World → Prop} {Q : Act → Prop} : ∀ {l : List Oper} {a : Act}, wpQuiet P ops C Q l a → wpQuietIn Fence.wide n P ops C Q l a
  | [], _, h => h
  | o :: l, a, h => by
    unfold wpQuiet at h
    unfold wpQuietIn
    refine ⟨fun _ _ _ _ => trivial, ?_⟩
    split
    · rename_i hw
      rw [if_pos hw] at h
      obtain ⟨v, hv, hk⟩ := h
      refine ⟨v, fun w hw => ?_, wpQuietIn_of hk⟩
      have := hv w hw
      unfold Oper.quietAt at this
      unfold Oper.quietAtIn
      generalize (execOp a.eval o).run P w = r at this
      cases r with
      | ok x w' =>
        cases x <;> first | exact this | exact this.elim | skip
        obtain ⟨h1, h2⟩ := this
        exact ⟨h1, fun h => by simp [Fence.wide] at h, callsIn_wide.2 h2⟩
      | halt x w' => exact this.elim
    · rename_i hw
      rw [if_neg hw] at h
      exact wpQuietIn_of h
theorem wpOpIn_round {r : Nat} {ops : Array Oper} {Q : Exit → Act → World → Prop} {i : Nat} {K K' : Act → World → Prop} {a : Act} {w : World} (_ : F.round = none) (hnd : ∀ (i : Nat) (o : Oper), ops[i]? = some o → ∀ c, o.op ≠ .defer c)
    (hK : ∀ a w, K a w → K' a w) (h : wpOpIn F n P ops Q i K a w) : wpOpIn (F.inRound r) n P ops Q i K' a w := by
  have h := wpOpIn_mono hK h
  unfold wpOpIn at h ⊢
  split
  · rename_i ho; rw [ho] at h; exact h
  · rename_i o ho
    rw [ho] at h
    simp only at h
    split
    · rename_i hw
      rw [if_pos hw] at h
      refine ⟨h.1, ?_⟩
      have h2 := h.2
      rw [Oper.semAt_eq _ _ _ (hnd i o ho)] at h2 ⊢
      exact h2
    · rename_i hw
      rw [if_neg hw] at h
      exact h
theorem wpAnyIn_round {r : Nat} {md : Region.Mode} {ops : Array Oper} {Q : Exit → Act → World → Prop} (hro : F.round = none) (hnd : ∀ (i : Nat) (o : Oper), ops[i]? = some o → ∀ c, o.op ≠ .defer c) :
    ∀ (fuel : Nat) (listed : Array Bool) (a : Act) (w : World), wpAnyIn F n P md ops Q fuel listed a w → wpAnyIn (F.inRound r) n P md ops Q fuel listed a w
  | 0, _, _, _, h => h
  | fuel + 1, _, _, _, h => ⟨h.1, fun i hi => wpOpIn_round hro hnd (fun a w => wpAnyIn_round hro hnd fuel _ a w) (h.2 i hi)⟩
def noDefer (o : Oper) : Bool := match o.op with | .defer _ => false | _ => true
/-- a region that draws its order, within a round: as outside of it -/
theorem wpIn_region_ext {r : Nat} {id : Nat} {Q : Exit → Act → World → Prop} {a : Act} {w : World} {l : List Oper} (hm : P.follows .mixedOrders = true) (hB : Region.lexB .any l.toArray = true) (hd : l.all noDefer = true)
    (h : wpQuiet P l.toArray (fun w' => ∃ x : ExtOf w, w' = x.val) (fun a' => ∀ w', (∃ x : ExtOf w, w' = x.val) → Q .normal a' w') l a) : (Code.region id l.toArray true).wpIn (Fence.wide.inRound r) n P Q a w := by
  have hnd : ∀ (i : Nat) (o : Oper), l.toArray[i]? = some o → ∀ c, o.op ≠ .defer c := fun i o ho c e => by
    have := List.all_eq_true.1 hd o (List.mem_of_getElem? (by simpa using ho))
    unfold noDefer at this
    rw [e] at this
    cases this
  have hB0 := hB
  simp only [Region.lexB, Bool.and_eq_true] at hB
  refine wpIn_region_any hm (wpAnyIn_round rfl hnd _ _ _ _ (wpAnyIn_of_quiet (C := fun w' => ∃ x : ExtOf w, w' = x.val) (Q := fun a' => ∀ w', (∃ x : ExtOf w, w' = x.val) → Q .normal a' w') rfl (fun _ w' hw' h => h w' hw') _ _ _ _ ⟨⟨{ w with drawn := w.drawn + 1 }, ⟨rfl, rfl, rfl, Nat.le_refl _, fun _ _ => rfl⟩⟩, rfl⟩ ?_))
  have := wpAnyQIn_lex (F := Fence.wide) (n := n) (C := fun w' => ∃ x : ExtOf w, w' = x.val) (md := .any) hB.1 l 0 (Array.replicate l.toArray.size false) a (by simp) (by simpa using hB.2) (wpQuietIn_of h)
  simpa using this
end
section
variable {P : Program} {n r : Nat}
theorem rowsIn_of {row : String} {args : Array Value} {w : World} {R : Value → World → Prop} (h : Rows P row args w R) : RowsIn Fence.wide n P row args w R := fun c cs _ => let ⟨v, w', hr, s⟩ := h c cs; ⟨v, w', hr, stepsIn_wide.2 s⟩
theorem wpListIn_round {ops : Array Oper} {Q : Exit → Act → World → Prop} (hL : ¬ LetsOut Q) : ∀ (l : List Oper) (a : Act) (w : World), l.all noDefer = true → wpList P ops Q l a w → wpListIn (Fence.wide.inRound r) n P ops Q l a w
  | [], _, _, _, h => h
  | o :: l, a, w, hd, h => by
    rw [List.all_cons, Bool.and_eq_true] at hd
    have hnd : ∀ c, o.op ≠ .defer c := fun c e => by
      have := hd.1
      unfold noDefer at this
      rw [e] at this
      cases this
    unfold wpList at h
    unfold wpListIn
    split
    · rename_i hw
      rw [if_pos hw] at h
      rcases h with h | h
      · refine ⟨fun _ _ => trivial, ?_⟩
        rw [Oper.semAt_eq _ _ _ hnd]
        unfold Oper.wp at h
        generalize (execOp a.eval o).run P w = res at h
        unfold Oper.upon at h
        unfold Oper.uponIn
        split at h
        · exact wpListIn_round hL l _ _ hd.2 h
        · exact wpListIn_round hL l _ _ hd.2 h
        · exact wpListIn_round hL l _ _ hd.2 h
        · refine ⟨fun h => by simp [Fence.wide] at h, CallsIn.inRound r ((callsIn_wide.2 h).mono fun e w'' hr => ?_)⟩
          cases e with
          | returned v => exact wpListIn_round hL l _ _ hd.2 hr
          | panicked chain => exact hr
          | outgrown => exact hr
        · exact ⟨fun h => by simp [Fence.wide] at h, (rowsIn_of h).mono fun v w'' hr => wpListIn_round hL l _ _ hd.2 hr⟩
        · exact h
        · exact h.elim
      · exact absurd h.2 hL
    · rename_i hw
      rw [if_neg hw] at h
      exact ⟨fun _ _ => trivial, wpListIn_round hL l _ _ hd.2 h⟩
/-- a region of one order, within a round: as outside of it -/
theorem wpIn_region_list {id : Nat} {l : List Oper} {Q : Exit → Act → World → Prop} {a : Act} {w : World} (hL : ¬ LetsOut Q) (hd : l.all noDefer = true) (h : wpList P l.toArray Q l a w) : (Code.region id l.toArray false).wpIn (Fence.wide.inRound r) n P Q a w :=
  wpIn_region_lit (wpListIn_round hL l a w hd h)
end
theorem Kn.pick {w : World} {Φ : List (World → Prop)} (h : Kn w Φ) (is : List Nat) : Kn w (is.filterMap fun i => Φ[i]?) := fun φ hφ => by
  obtain ⟨i, _, hi⟩ := List.mem_filterMap.1 hφ
  exact h φ (List.mem_of_getElem? hi)
/-- every block that the piece lies in is cells -/
def Pc.cells (p : Pc) : Prop := ∀ w, p.holds w → ∀ k, p.foot k → ∃ o : Obj, w.heap[k]? = some o ∧ o.isCells = true
theorem Pc.blk_cells (g : Nat) (t : TypeId) (cs : Array Value) : (Pc.blk g t cs).cells := fun _ h k e => by
  cases e
  have h : Blk _ g t cs := h
  exact ⟨_, h, rfl⟩
theorem Pc.own_cells (e : TypeId) (size : Nat) (q : Option Addr) (n c : Nat) (xs : List Value) : (Pc.own e size q n c xs).cells := fun w h k hk => by
  have h : w.ownsRow 0 e size (.slice q n c) n xs := h
  rcases h.2 with ⟨h1, h2⟩ | ⟨g, cap, cur, h1, hg, hh, _⟩
  · subst h2
    rcases h.2 with ⟨h3, _⟩ | ⟨g, cap, cur, h1, hg, hh, _⟩
    · injection h3 with h3; subst h3; cases hk
    · injection h1 with h1; subst h1
      obtain rfl : g = k := by injection hk
      exact ⟨_, hh, rfl⟩
  · injection h1 with h1; subst h1
    obtain rfl : g = k := by injection hk
    exact ⟨_, hh, rfl⟩
/-- a turn of a new block that is no cells leaves pieces of cells as they are -/
theorem Sep.turn {w0 w w' : World} {Γ : List Pc} {row : Option Nat} {B : Nat} (S : Sep w0 w Γ) (hΓ : ∀ p ∈ Γ, p.cells) (hB : w0.heap.size ≤ B) (hg : w.grownBy w' row) (hr : ∀ r, row = some r → B ≤ r ∧ ∃ o : Obj, w.heap[r]? = some o ∧ o.isCells = false) : Sep w0 w' Γ := by
  refine ⟨Below.trans S.ext ⟨hg.os, hg.tape, hg.output, hg.size, fun k hk => hg.block k (Nat.lt_of_lt_of_le hk S.ext.size) fun e => ?_⟩, fun p hp => p.loc w w' (S.all p hp) fun k hk => hg.block k (S.lt hp hk) fun e => ?_, S.new, S.apart⟩
  · have := (hr k e.symm).1; omega
  · obtain ⟨_, o, h1, h2⟩ := hr k e.symm
    obtain ⟨o', h3, h4⟩ := hΓ p hp w (S.all p hp) k hk
    rw [h1] at h3; injection h3 with h3; subst h3; rw [h2] at h4; cases h4
/-- pieces of cells as what a loop over an iterator keeps -/
theorem sep_ownFrom {β : Type} {w0 : World} {B : Nat} (f : β → World → Prop) (hB : w0.heap.size ≤ B) (h : ∀ s W, f s W → ∃ Γ, (∀ p ∈ Γ, p.cells) ∧ Sep w0 W Γ ∧ ∀ W', Sep w0 W' Γ → f s W') : OwnFrom B f :=
  fun s W W' row hs hg hr => by
    obtain ⟨Γ, h1, h2, h3⟩ := h s W hs
    exact h3 W' (h2.turn h1 hB hg hr)
theorem cells_all {Γ : List Pc} (h : ∀ p ∈ Γ, (∃ g t cs, p = Pc.blk g t cs) ∨ ∃ e size q n c xs, p = Pc.own e size q n c xs) : ∀ p ∈ Γ, p.cells := fun p hp => by
  rcases h p hp with ⟨g, t, cs, rfl⟩ | ⟨e, size, q, n, c, xs, rfl⟩
  · exact Pc.blk_cells _ _ _
  · exact Pc.own_cells _ _ _ _ _ _
/-- the block for the rounds' deferred calls, turned once more: what was there when the call began stays -/
theorem Sep.putObj {w0 w : World} {Γ : List Pc} (S : Sep w0 w Γ) (hΓ : ∀ p ∈ Γ, p.cells) {D : Nat} {o : Obj} (o' : Obj) (hD : w0.heap.size ≤ D) (hK : w.heap[D]? = some o) (ho : o.isCells = false) : Sep w0 (w.putObj D o') Γ :=
  S.turn hΓ hD (grownBy_putObj' w D o') fun r e => by cases e; exact ⟨Nat.le_refl _, o, hK, ho⟩
theorem keeps_ext {W W' : World} (h : Ext W W') : KeepsOthers W W' := ⟨h.size, fun k _ hk _ => (h.block k (Array.getElem?_eq_some_iff.1 hk).1).trans hk⟩
/-- append onto a piece, in a loop over an iterator: whatever is no cells stays, too -/
theorem wpList_append_sepK {P : Program} {w0 w : World} {Γ : List Pc} {ops : Array Oper} {rest : List Oper} {o : Oper} {a : Act} {Q : Exit → Act → World → Prop} (hgd : o.guard = none) (s x : Operand) (t : TypeId)
    (ho : o.op = .call { callee := .builtin .append, args := #[s, x], argTypes := #[t, t] })
    (e : TypeId) (i : TypeInfo) (z : Value) (size bytes : Nat) (ht : P.underlying t = some (.slice e)) (hi : P.info? e = some i) (hz : i.zero = some z)
    (hsize : i.size = size) (hby : i.bytes = bytes) (hzs : z.cells.size = size) (hsz : 0 < size)
    (S : Sep w0 w Γ) (j : Nat) (q : Option Addr) (n cq : Nat) (xs : List Value) (hs : a.eval s = .slice q n cq) (hj : Γ[j]? = some (.own e size q n cq xs))
    (A : Option Addr) (m c : Nat) (news : List Value) (hx : a.eval x = .slice A m c) (hr : Rd w size A m news) (h1 : ∀ u ∈ news, u.oneCell' = true)
    (hbytes : (n + m) * bytes ≤ 140737488355328) (h63 : n + m ≤ 140737488355328)
    (h : ∀ q' c' w', Sep w0 w' (Γ.set j (.own e size q' (n + m) c' (xs ++ news))) → w.heap.size ≤ w'.heap.size → KeepsOthers w w' → wpList P ops Q rest (a.put o.dst (.slice q' (n + m) c')) w') : wpList P ops Q (o :: rest) a w := by
  refine wpList_append_rd hgd s x t ho w0.heap.size e i z size bytes ht hi hz hsize hby hzs hsz q n cq xs hs (S.own j hj) A m c news hx hr h1 hbytes h63 S.ext.size ?_
  intro q' c' w' ho' hg hat _
  refine h q' c' w' (S.put j hj _ hg (fun k hk => hk) (own_base ho' (Nat.zero_le _)) fun k hk => ?_) hg.size (KeepsOthers.of_grownBy hg fun k o ek hk => ?_)
  · rcases hat with h | h
    · exact .inl (h.symm.trans hk)
    · have : some w.heap.size = some k := h.symm.trans hk
      injection this with this
      exact .inr (by omega)
  · obtain ⟨o', h1, h2⟩ := Pc.own_cells e size q n cq xs w (S.all _ (List.mem_of_getElem? hj)) k ek
    rw [hk] at h1; injection h1 with h1; subst h1; exact h2
end Go.Proofs.Ytcjkechemjdboaa
/- The program's rows: sorted offsets, numbers within, and the iterator over all pairs. -/
namespace Go.Proofs.Ytcjkechemjdboaa
open Go Go.RowKit Go.Shelf Go.Lib
theorem lessI (x y : Int) (w : World) : Calls Try.prog 103 #[.int .i64 x, .int .i64 y] w fun e w' => e = .returned (.bool (decide (x < y))) ∧ Ext w w' :=
  (Any.cmp_Less_int2 { Try.binI with } x y w).mono fun e w' ⟨h1, h2⟩ => ⟨h1, by rw [h2]; exact Below.refl _ _⟩
set_option maxHeartbeats 1000000 in
theorem IsSortedI (p : Option Addr) (n c : Nat) (l : List Int) (w : World) (hl : Rd w 1 p n (encI l)) (h0 : 0 < n) :
    Calls Try.prog 100 #[.slice p n c] w fun e w' => e = .returned (.bool (sortB l)) ∧ Ext w w' := by
  have p1 := hl.ptr
  have n1 := hl.small
  have l1 := hl.nI
  have HL := Lib.hid hl; clear hl
  have L1 := Lib.hid l1; clear l1
  go_enter Try.func100, Try.ntmps100
  go_wp2
  go_loopw [3] (fun i wr => ∃ j : Nat, j < n ∧ i = .int .i64 j ∧ (∀ v, j ≤ v → v + 1 < n → nth l v ≤ nth l (v + 1)) ∧ Ext w wr) (fun i _ => (intOf i).toNat)
  case atStart => exact ⟨n - 1, by omega, by go_num, fun v h1 h2 => by omega, Below.refl _ _⟩
  case round =>
    obtain ⟨j, hj, rfl, ha, hE⟩ := hrel
    have HA := Lib.hid ha; clear ha
    rcases Nat.eq_zero_or_pos j with hz | hz
    · subst hz
      have HF : Hid (sortB l = true) := by
        unfold Hid sortB
        rw [List.all_eq_true]
        intro v hv
        rw [List.mem_range] at hv
        exact decide_eq_true (HA.out v (by omega) (by rw [L1.out]; omega))
      have HE := Lib.hid hE; clear hE
      go_wp2
      go_ret
      exact ⟨ret_bool HF.out.symm, HE.out⟩
    · have g1 := hE.cell (HL.out.cI hj)
      have g2 := hE.cell (HL.out.cI (k := j - 1) (by omega))
      have d1 : decide ((0:Int) < (j:Int)) = true := by simp; omega
      have d1n : decide (0 < j) = true := by simp; omega
      have d2 : (0:Int) ≤ j := by omega
      have d3 : (j:Int) < n := by omega
      have d4 : (1:Int) ≤ (j:Int) := by omega
      have d5 : (j:Int) - 1 < n := by omega
      have d6 : (0:Int) ≤ (j:Int) - 1 := by omega
      have HLs := Lib.hid (fun x : ExtOf wr => lessI (nth l j) (nth l (j - 1)) x.val)
      have HE := Lib.hid hE; clear hE
      by_cases hlt : nth l j < nth l (j - 1)
      · rw [decide_eq_true hlt] at HLs
        have HF : Hid (sortB l = false) := by
          unfold Hid sortB
          refine range_all_no _ _ (j - 1) (by rw [← L1.out]; omega) ?_
          rw [show j - 1 + 1 = j by omega]
          simp; exact hlt
        go_wp2
        have x1 := fun x : ExtOf wr => x.ext.cell g1
        have x2 := fun x : ExtOf wr => x.ext.cell g2
        refine wp_region_ext (by kernel_rfl) (by kernel_rfl) ?_
        repeat (go_big_quiet_step (((go_at_call 103; exact Calls.ext_of (HLs.out _)))))
        refine wpQuiet_nil ?_
        rintro w1 ⟨⟨_, hb1⟩, rfl⟩
        go_wp2
        go_ret
        exact ⟨ret_bool HF.out.symm, Ext.trans HE.out hb1⟩
      · rw [decide_eq_false hlt] at HLs
        go_wp2
        have x1 := fun x : ExtOf wr => x.ext.cell g1
        have x2 := fun x : ExtOf wr => x.ext.cell g2
        refine wp_region_ext (by kernel_rfl) (by kernel_rfl) ?_
        repeat (go_big_quiet_step (((go_at_call 103; exact Calls.ext_of (HLs.out _)))))
        refine wpQuiet_nil ?_
        rintro w1 ⟨⟨_, hb1⟩, rfl⟩
        go_wp2
        go_roundw
        case rel => exact ⟨j - 1, by omega, by go_num, fun v h1 h2 => by
          by_cases h3 : v = j - 1
          · subst h3; rw [show j - 1 + 1 = j by omega]; omega
          · exact HA.out v (by omega) h2, Ext.trans HE.out hb1⟩
        case measure => simp [intOf]; omega
def withB (m : Int) (l : List Int) : Bool := l.all fun x => decide (0 ≤ x) && decide (x ≤ m)
set_option maxHeartbeats 1000000 in
theorem withinG (m : Int) (p : Option Addr) (n c : Nat) (l : List Int) (w : World) (hl : Rd w 1 p n (encI l)) :
    Calls Try.prog 101 #[.int .i64 m, .slice p n c] w fun e w' => e = .returned (.bool (withB m l)) ∧ w = w' := by
  have p1 := hl.ptr
  have n1 := hl.small
  have l1 := hl.nI
  have HL := Lib.hid hl; clear hl
  have L1 := Lib.hid l1; clear l1
  go_enter Try.func101, Try.ntmps101
  go_wp2
  go_loop [6, 9] (fun _ i => ∃ k : Nat, k ≤ n ∧ i = .int .i64 k ∧ (l.take k).all (fun x => decide (0 ≤ x) && decide (x ≤ m)) = true) (fun _ i => n - (intOf i).toNat)
  case atStart => exact ⟨0, Nat.zero_le _, rfl, rfl⟩
  case round =>
    obtain ⟨k, hk, rfl, ha⟩ := hrel
    have HA := Lib.hid ha; clear ha
    by_cases hlt : k < n
    · have g1 := HL.out.cI hlt
      have d1 : (0:Int) ≤ k := by omega
      have d2 : (k:Int) < n := by omega
      have hkL : k < l.length := by rw [← L1.out]; exact hlt
      by_cases h1 : nth l k < 0
      · have b1 : decide (nth l k < 0) = true := by simpa using h1
        have HF : Hid (withB m l = false) := all_false_at _ l k hkL (by simp; omega)
        go_wp2
        go_ret
        exact ⟨ret_bool HF.out.symm, rfl⟩
      · have b1 : decide (nth l k < 0) = false := by simpa using h1
        by_cases h2 : m < nth l k
        · have b2 : decide (m < nth l k) = true := by simpa using h2
          have HF : Hid (withB m l = false) := all_false_at _ l k hkL (by simp; omega)
          go_wp2
          go_ret
          exact ⟨ret_bool HF.out.symm, rfl⟩
        · have b2 : decide (m < nth l k) = false := by simpa using h2
          have HS := Lib.hid (all_step (fun x : Int => decide (0 ≤ x) && decide (x ≤ m)) l k hkL HA.out (by simp; omega))
          go_wp2
          go_round
          case rel => exact ⟨k + 1, by omega, by go_num, HS.out⟩
          case measure => simp [intOf]; omega
    · have HF : Hid (withB m l = true) := all_end _ l k (by rw [← L1.out]; exact hlt) HA.out
      go_wp2
      go_ret
      exact ⟨ret_bool HF.out.symm, rfl⟩
theorem allG (po : Option Addr) (no co : Nat) (pt : Option Addr) (nt ct : Nat) (w : World) :
    Calls Try.prog 76 #[.slice po no co, .slice pt nt ct] w fun e w' => e = .returned (.func (.func 102) #[] #[.pointer (some ⟨w.heap.size, 0, none⟩), .pointer (some ⟨w.heap.size + 1, 0, none⟩)]) ∧ w' = (w.alloc (.cells #[.slice po no co] 38)).alloc (.cells #[.slice pt nt ct] 38) := by
  go_enter Try.func76, Try.ntmps76
  go_wp2
  go_ret
  exact ⟨by simp, rfl⟩
/-- a place's row, as it is read -/
theorem Rd.rowOf {w : World} {pt : Option Addr} {nt ct : Nat} {O T : List Int} (hT : Rd w 1 pt nt (encI T)) (hok : OffOk O T) (hct : nt ≤ ct) {k : Nat} (hk : k + 1 < O.length) :
    Rd w 1 (cutp pt ct (nth O k).toNat 1) ((nth O (k + 1)).toNat - (nth O k).toNat) (encI (rowL O T k)) := by
  have h1 := hok.le k hk
  have h2 := hok.hi (k + 1) hk
  have h3 := hT.nI
  have := hT.cut (l := (nth O k).toNat) (h := (nth O (k + 1)).toNat) (by omega) (by omega) hct
  rw [encI_drop, encI_take] at this
  exact this
/-- what a round keeps -/
def KpA (n₀ b1 b2 : Nat) (W W' : World) : Prop := Below n₀ W W' ∧ W'.heap[b1]? = W.heap[b1]? ∧ W'.heap[b2]? = W.heap[b2]?
theorem KpA.trans {n₀ b1 b2 : Nat} {A B C : World} (h : KpA n₀ b1 b2 A B) (k : KpA n₀ b1 b2 B C) : KpA n₀ b1 b2 A C := ⟨Below.trans h.1 k.1, k.2.1.trans h.2.1, k.2.2.trans h.2.2⟩
theorem KpA.refl (n₀ b1 b2 : Nat) (A : World) : KpA n₀ b1 b2 A A := ⟨Below.refl _ _, rfl, rfl⟩
theorem KpA.ext {n₀ b1 b2 : Nat} {A B : World} (h : Ext A B) (hn : n₀ ≤ A.heap.size) (h1 : b1 < A.heap.size) (h2 : b2 < A.heap.size) : KpA n₀ b1 b2 A B := ⟨h.mono hn, h.block b1 h1, h.block b2 h2⟩
abbrev PairOf (O T : List Int) := { x : Int × Int // x ∈ pairs O T }
theorem pairs_at {O T : List Int} {k j : Nat} (hk : k < O.length - 1) (hj : j < (rowL O T k).length) : ((k : Int), nth (rowL O T k) j) ∈ pairs O T := mem_pairs.2 ⟨k, hk, rfl, nth_mem hj⟩
theorem rowX_take {O T : List Int} {k j : Nat} (hj : j < (rowL O T k).length) : (rowX O T k).take (j + 1) = (rowX O T k).take j ++ [((k : Int), nth (rowL O T k) j)] := by
  have h1 : j < (rowX O T k).length := by unfold rowX; rw [List.length_map]; exact hj
  rw [take_succ_nth _ j h1]
  congr 2
  rw [nth_eq h1, nth_eq hj]
  simp [rowX]
theorem pairsK_prefix {O T : List Int} {k : Nat} : ∀ d, pairsK O T k <+: pairsK O T (k + d)
  | 0 => List.prefix_refl _
  | d + 1 => by
    rw [← Nat.add_assoc, pairsK_step]
    exact (pairsK_prefix d).trans (List.prefix_append _ _)
theorem pairs_prefix {O T : List Int} {k j : Nat} (hk : k < O.length - 1) : pairsK O T k ++ (rowX O T k).take j <+: pairs O T := by
  have h1 : pairsK O T k ++ (rowX O T k).take j <+: pairsK O T (k + 1) := by
    rw [pairsK_step]
    exact (List.prefix_append_right_inj _).2 (List.take_prefix _ _)
  have h2 := pairsK_prefix (O := O) (T := T) (k := k + 1) (O.length - 1 - (k + 1))
  rw [show k + 1 + (O.length - 1 - (k + 1)) = O.length - 1 by omega] at h2
  exact h1.trans h2
end Go.Proofs.Ytcjkechemjdboaa
/- The iterator over all pairs: its contract. -/
namespace Go.Proofs.Ytcjkechemjdboaa
open Go Go.RowKit Go.Shelf Go.Lib
attribute [local go_sem] Oper.semAt_some
set_option maxRecDepth 100000 in
set_option maxHeartbeats 4000000 in
theorem all_stops (n : Nat) (hn : 1 ≤ n) (b1 b2 n₀ : Nat) (po : Option Addr) (no co : Nat) (pt : Option Addr) (nt ct : Nat) (O T : List Int) (w : World) (hw : n₀ ≤ w.heap.size)
    (h1 : Blk w b1 38 #[.slice po no co]) (h2 : Blk w b2 38 #[.slice pt nt ct]) (hO : Rd w 1 po no (encI O)) (hT : Rd w 1 pt nt (encI T)) (hO0 : 0 < no → (adr po 0).block < n₀) (hT0 : 0 < nt → (adr pt 0).block < n₀)
    (hok : OffOk O T) (hct : nt ≤ ct) :
    SeqStopsK Fence.wide n Try.prog 102 #[.pointer (some ⟨b1, 0, none⟩), .pointer (some ⟨b2, 0, none⟩)] (fun x : PairOf O T => #[Value.int .i64 x.1.1, Value.int .i64 x.1.2]) (KpA n₀ b1 b2)
      (fun ys => ys.map (·.1) = pairs O T) (fun pre => pre.map (·.1) <+: pairs O T) (pairs O T).length w := by
  intro l J Jx W hW hJ hJx hY h0
  have B1 : Blk W b1 38 #[.slice po no co] := h1.ext hW
  have B2 : Blk W b2 38 #[.slice pt nt ct] := h2.ext hW
  have RO := hO.ext hW
  have RT := hT.ext hW
  have l1 := Lib.hid RO.nI
  have l2 := Lib.hid RT.nI
  have pO := RO.ptr
  have pT := RT.ptr
  have n1 := RO.small
  have n2 := RT.small
  have w2 := hok.two
  clear h1 h2 hO hT hJx
  have HW := Lib.hid hW; clear hW
  have HJ := Lib.hid hJ; clear hJ
  have HY := Lib.hid hY; clear hY
  have HOK := Lib.hid hok; clear hok
  have HRO := Lib.hid RO; clear RO
  have HRT := Lib.hid RT; clear RT
  have c1 := B1.cell 0
  have z1 := B1.lt
  have d0 : (1:Int) ≤ no := by have := l1.out; omega
  have HB1 := Lib.hid B1; clear B1
  have HB2 := Lib.hid B2; clear B2
  refine callsIn_of_wp Try.func102 rfl trivial ?_ rfl
  simp only [Try.ntmps102, List.size_toArray, List.length_cons, List.length_nil, Nat.reduceAdd, Nat.reduceSub, Array.replicate_succ, Array.replicate_zero, List.push_toArray, List.append_toArray, List.nil_append, List.cons_append]
  gi_wp2
  gi_loopw [4, 6, 10] (fun _ _ i wr => ∃ (k : Nat) (pre : List (PairOf O T)), k ≤ no - 1 ∧ i = .int .i64 k ∧ pre.map (·.1) = pairsK O T k ∧ J pre wr ∧ KpA n₀ b1 b2 W wr) (fun _ _ i _ => (no - 1) - (intOf i).toNat)
  case atStart => exact ⟨0, [], Nat.zero_le _, rfl, rfl, h0, KpA.refl _ _ _ _⟩
  case round =>
    clear c1
    obtain ⟨k, pre, hk, rfl, hpre, hJs, hKp⟩ := hrel
    have B1' : Blk wr b1 38 #[.slice po no co] := hKp.2.1.trans HB1.out
    have B2' : Blk wr b2 38 #[.slice pt nt ct] := hKp.2.2.trans HB2.out
    have RO' := HRO.out.below hKp.1 (by simpa using hO0)
    have RT' := HRT.out.below hKp.1 (by simpa using hT0)
    have HP := Lib.hid hpre; clear hpre
    have HJs := Lib.hid hJs; clear hJs
    have HKp := Lib.hid hKp; clear hKp
    by_cases hlt : k < no - 1
    · have hk1 : k + 1 < O.length := by rw [← l1.out]; omega
      have q1 := HOK.out.lo k (by omega)
      have q2 := HOK.out.le k hk1
      have q3 := HOK.out.hi (k + 1) hk1
      have c1 := B1'.cell 0
      have c2 := B2'.cell 0
      have g1 := RO'.cI (k := k) (by omega)
      have g2 := RO'.cI (k := k + 1) (by omega)
      have hrl := Lib.hid (rowL_len HOK.out hk1)
      have RL := Lib.hid (RT'.rowOf HOK.out hct hk1)
      obtain ⟨a, ha⟩ : ∃ a : Nat, nth O k = (a : Int) := ⟨(nth O k).toNat, by omega⟩
      obtain ⟨b, hb⟩ : ∃ b : Nat, nth O (k + 1) = (b : Int) := ⟨(nth O (k + 1)).toNat, by omega⟩
      rw [ha] at g1 q1 q2 hrl RL
      rw [hb] at g2 q2 q3 hrl RL
      have hq3 : (b:Int) ≤ ct := by have := l2.out; omega
      simp only [Int.toNat_natCast] at hrl RL
      have HRL : Hid (∀ W', Below n₀ W W' → Rd W' 1 (cutp pt ct a 1) (b - a) (encI (rowL O T k))) := fun W' h => by
        have h3 := (HRT.out.below h (by simpa using hT0)).rowOf HOK.out hct hk1
        rw [ha, hb] at h3
        simpa only [Int.toNat_natCast] using h3
      have d1 : (0:Int) ≤ k := by omega
      have d2 : (k:Int) < no := by omega
      have d2b : (k:Int) < (no:Int) - 1 := by omega
      have d3 : (0:Int) ≤ (k:Int) + 1 := by omega
      have d4 : (k:Int) + 1 < no := by omega
      clear ha hb B1' B2' RO' RT' q3
      gi_wp2
      refine wpIn_wide.2 ?_
      have x1 := fun x : ExtOf wr => x.ext.cell c1
      have x2 := fun x : ExtOf wr => x.ext.cell c2
      have y1 := fun x : ExtOf wr => x.ext.cell g1
      have y2 := fun x : ExtOf wr => x.ext.cell g2
      refine wp_region_ext (by kernel_rfl) (by kernel_rfl) ?_
      repeat (go_big_quiet_step ((fail)))
      refine wpQuiet_nil ?_
      rintro w1 ⟨⟨_, hb1⟩, rfl⟩
      have pR := RL.out.ptr
      have nR := RL.out.small
      have lR := Lib.hid RL.out.nI
      gi_wp2
      gi_loopw [6, 25] (fun _ j wx => ∃ (i : Nat) (pre' : List (PairOf O T)), i ≤ b - a ∧ j = .int .i64 i ∧ pre'.map (·.1) = pairsK O T k ++ (rowX O T k).take i ∧ J pre' wx ∧ KpA n₀ b1 b2 W wx) (fun _ j _ => (b - a) - (intOf j).toNat)
      case atStart => exact ⟨0, pre, Nat.zero_le _, rfl, by rw [HP.out]; simp, HJ.out _ _ _ none HJs.out (Ext.grown hb1) (fun r e => nomatch e),
        HKp.out.trans (KpA.ext hb1 (Nat.le_trans hw (Nat.le_trans HW.out.size HKp.out.1.size)) (Nat.lt_of_lt_of_le HB1.out.lt HKp.out.1.size) (Nat.lt_of_lt_of_le HB2.out.lt HKp.out.1.size))⟩
      case round =>
        clear hb1 x1 x2 y1 y2
        obtain ⟨i, pre', hi, rfl, hp', hJ', hK'⟩ := hrel
        have RLx := HRL.out _ hK'.1
        have HP' := Lib.hid hp'; clear hp'
        have HJ' := Lib.hid hJ'; clear hJ'
        have HK' := Lib.hid hK'; clear hK'
        by_cases hli : i < b - a
        · have hin : i < (rowL O T k).length := by rw [hrl.out]; exact hli
          have f1 := RLx.cI hli
          have d5 : (0:Int) ≤ i := by omega
          have d6 : (i:Int) < ((b - a : Nat) : Int) := by omega
          have hlen : pre'.length < (pairs O T).length := by
            have h3 := (pairs_prefix (O := O) (T := T) (k := k) (j := i + 1) (by omega)).length_le
            rw [rowX_take hin, ← List.append_assoc, ← HP'.out] at h3
            simp at h3; omega
          obtain ⟨fn, tmps, assign, body, hy, hR⟩ := HY.out pre' ⟨((k : Int), nth (rowL O T k) i), pairs_at (by rw [← l1.out]; exact hlt) hin⟩ _ HJ'.out hlen
          dsimp only at hy
          clear RLx
          gi_wp2
          refine hR.mono ?_
          rintro e W3 (⟨rfl, hJ3, hk3⟩ | ⟨rfl, hJx3⟩)
          · have HJ3 := Lib.hid hJ3; clear hJ3
            have HK3 := Lib.hid hk3; clear hk3
            gi_wp2
            go_roundw
            case rel => exact ⟨i + 1, _, by omega, by go_num, by rw [List.map_append, HP'.out, rowX_take hin, List.append_assoc]; rfl, HJ3.out, HK'.out.trans HK3.out⟩
            case measure => simp [intOf]; omega
          · have HX3 := Lib.hid hJx3; clear hJx3
            gi_wp2
            refine bodyPost_ret (results_none rfl _ _ _) rfl ?_
            exact ⟨⟨_, rfl⟩, .inr ⟨_, by
              have h3 := pairs_prefix (O := O) (T := T) (k := k) (j := i + 1) (by rw [← l1.out]; exact hlt)
              rw [rowX_take hin, ← List.append_assoc, ← HP'.out] at h3
              rw [List.map_append]; exact h3, HX3.out⟩⟩
        · obtain rfl : i = b - a := by omega
          clear RLx
          gi_wp2
          go_roundw
          case rel => exact ⟨k + 1, pre', by omega, by go_num, by rw [HP'.out, pairsK_step, List.take_of_length_le (by unfold rowX; rw [List.length_map, hrl.out]; exact Nat.le_refl _)], HJ'.out, HK'.out⟩
          case measure => simp [intOf]; omega
    · obtain rfl : k = no - 1 := by omega
      have d2 : decide (((no - 1 : Nat) : Int) < (no : Int) - 1) = false := by simp; omega
      have d3 : ((no - 1 : Nat) : Int) = (no : Int) - 1 := by omega
      gi_wp2
      go_end0
      exact ⟨⟨_, rfl⟩, .inl ⟨pre, by rw [HP.out, l1.out]; rfl, HJs.out⟩⟩
end Go.Proofs.Ytcjkechemjdboaa
/- The program's half: offsets and numbers that are right by themselves. -/
namespace Go.Proofs.Ytcjkechemjdboaa
open Go Go.RowKit Go.Shelf Go.Lib
attribute [local go_sem] Oper.semAt_some
theorem below_mid {B : Nat} {w W W' : World} (h : Below B w W) (k : Below B w W') (hs : W.heap.size ≤ W'.heap.size) : Below B W W' :=
  ⟨k.os.trans h.os.symm, k.tape.trans h.tape.symm, k.output.trans h.output.symm, hs, fun i hi => (k.block i hi).trans (h.block i hi).symm⟩
theorem kpA_of {w W W' : World} {b1 b2 : Nat} {o1 o2 : Obj} (h : Ext w W) (k : Ext w W') (hs : W.heap.size ≤ W'.heap.size) (h1 : W.heap[b1]? = some o1) (h2 : W.heap[b2]? = some o2) (k1 : W'.heap[b1]? = some o1) (k2 : W'.heap[b2]? = some o2) : KpA w.heap.size b1 b2 W W' :=
  ⟨below_mid h k hs, k1.trans h1.symm, k2.trans h2.symm⟩
theorem kpA_b {w3 : World} {n₀ b1 b2 : Nat} (hn : n₀ ≤ w3.heap.size) (h1 : b1 < w3.heap.size) (h2 : b2 < w3.heap.size) (W : World) (l : Nat) (o o' : Obj) (hl : w3.heap.size ≤ l) (h : W.heap[l]? = some o) (hc : o.isCells = false) (hw : o.isWalk = false) : KpA n₀ b1 b2 W (W.putObj l o') :=
  ⟨belowK_b hn W l o o' hl h hc hw, World.putObj_heap_other (by omega), World.putObj_heap_other (by omega)⟩
set_option maxRecDepth 100000 in
set_option maxHeartbeats 4000000 in
theorem halfG_no (po : Option Addr) (no co : Nat) (O : List Int) (pt : Option Addr) (nt ct : Nat) (T : List Int) (w : World) (hO : Rd w 1 po no (encI O)) (hT : Rd w 1 pt nt (encI T)) (hct : nt ≤ ct) (h : offB O T = false) : Calls Try.prog 75 #[.slice po no co, .slice pt nt ct] w fun e w' => e = .returned (.bool false) ∧ Ext w w' := by
  have _hc := hct
  have p1 := hO.ptr
  have n1 := hO.small
  have n2 := hT.small
  have l1 := Lib.hid hO.nI
  have l2 := Lib.hid hT.nI
  have S0 := Lib.hid (((Sep.start w).al #[.bool false] 4 w.heap.size rfl).al #[.int .i64 ((no:Int) - 1)] 3 (w.heap.size + 1) (by simp))
  have HSo := Lib.hid (fun W1 (h : Ext w W1) (h0 : 0 < no) => IsSortedI po no co O W1 (hO.ext h) h0)
  by_cases h1 : (no:Int) - 1 < 1
  · have d1 : decide ((no:Int) - 1 < 1) = true := by simpa using h1
    clear hO hT h
    go_enter Try.func75, Try.ntmps75
    go_wp2
    refine bodyPost_ret (v := .bool false) (by simp [results, Try.results75, go_sem]) rfl ⟨rfl, ?_⟩
    first | exact S0.out.ext | exact (S0.out.set 1 rfl 0 _).ext
  · have d1 : decide ((no:Int) - 1 < 1) = false := by simpa using h1
    by_cases h2 : 200 < (no:Int) - 1
    · have d2 : decide (200 < (no:Int) - 1) = true := by simpa using h2
      clear hO hT h
      go_enter Try.func75, Try.ntmps75
      go_wp2
      refine bodyPost_ret (v := .bool false) (by simp [results, Try.results75, go_sem]) rfl ⟨rfl, ?_⟩
      first | exact S0.out.ext | exact (S0.out.set 1 rfl 0 _).ext
    · have d2 : decide (200 < (no:Int) - 1) = false := by simpa using h2
      by_cases h3 : 2000 < nt
      · have d3 : decide ((2000:Int) < nt) = true := by simp; omega
        clear hO hT h
        go_enter Try.func75, Try.ntmps75
        go_wp2
        refine bodyPost_ret (v := .bool false) (by simp [results, Try.results75, go_sem]) rfl ⟨rfl, ?_⟩
        first | exact S0.out.ext | exact (S0.out.set 1 rfl 0 _).ext
      · have d3 : decide ((2000:Int) < nt) = false := by simp; omega
        have g0 := S0.out.ext.cell (hO.cI (k := 0) (by omega))
        have q1 : (0:Int) < no := by omega
        by_cases h4 : nth O 0 = 0
        · have d4 : (nth O 0 != 0) = false := by simpa using h4
          have g5 := S0.out.ext.cell (hO.cI (k := no - 1) (by omega))
          have q2 : (0:Int) ≤ (no:Int) - 1 := by omega
          have q3 : (no:Int) - 1 < no := by omega
          by_cases h5 : nth O (no - 1) = nt
          · have d5 : (nth O (no - 1) != (nt:Int)) = false := by simpa using h5
            have h6 : sortB O = false := by
              cases h7 : sortB O with
              | false => rfl
              | true =>
                unfold offB at h
                rw [h7, h4] at h
                rw [← l1.out, ← l2.out, h5] at h
                simp at h; omega
            rw [h6] at HSo
            clear hO hT h h6 h4 h5
            go_enter Try.func75, Try.ntmps75
            go_wp2_with (go_at_call 100; go_must (refine (HSo.out _ S0.out.ext (by omega)).mono ?_; rintro e w2 ⟨rfl, hb⟩; have S2 := Lib.hid (S0.out.call hb); have c4 := (S2.out.blk 1 rfl).cell 0; have f4 := (S2.out.blk 1 rfl).frozen 0; have z4 := (S2.out.blk 1 rfl).lt; clear hb))
            refine bodyPost_ret (v := .bool false) (by simp [results, Try.results75, go_sem, c4]) rfl ⟨rfl, (S2.out.set 1 rfl 0 _).ext⟩
          · have d5 : (nth O (no - 1) != (nt:Int)) = true := by simpa using h5
            clear hO hT h h4 h5
            go_enter Try.func75, Try.ntmps75
            go_wp2
            refine bodyPost_ret (v := .bool false) (by simp [results, Try.results75, go_sem]) rfl ⟨rfl, ?_⟩
            first | exact S0.out.ext | exact (S0.out.set 1 rfl 0 _).ext
        · have d4 : (nth O 0 != 0) = true := by simpa using h4
          clear hO hT h h4
          go_enter Try.func75, Try.ntmps75
          go_wp2
          refine bodyPost_ret (v := .bool false) (by simp [results, Try.results75, go_sem]) rfl ⟨rfl, ?_⟩
          first | exact S0.out.ext | exact (S0.out.set 1 rfl 0 _).ext
end Go.Proofs.Ytcjkechemjdboaa
/- The program's half, where the offsets are right: each pair is looked at. -/
namespace Go.Proofs.Ytcjkechemjdboaa
open Go Go.RowKit Go.Shelf Go.Lib
attribute [local go_sem] Oper.semAt_some
/-- what the loop keeps: the boxes of the iterator, the last pair, n, the result -/
def halfPc (b4 b : Nat) (po : Option Addr) (no co : Nat) (pt : Option Addr) (nt ct : Nat) (p : Int × Int) (r : Bool) : List Pc :=
  [.blk (b + 1 + 1 + 1) 38 #[.slice pt nt ct], .blk (b + 1 + 1) 38 #[.slice po no co], .blk (b + 1) 3 #[.int .i64 p.2], .blk b 3 #[.int .i64 p.1], .blk (b4 + 1) 3 #[.int .i64 ((no:Int) - 1)], .blk b4 4 #[.bool r]]
theorem halfPc_cells (b4 b : Nat) (po : Option Addr) (no co : Nat) (pt : Option Addr) (nt ct : Nat) (p : Int × Int) (r : Bool) : ∀ q ∈ halfPc b4 b po no co pt nt ct p r, q.cells :=
  cells_all fun q hq => by simp [halfPc] at hq; rcases hq with h | h | h | h | h | h <;> exact .inl ⟨_, _, _, h⟩
set_option maxRecDepth 100000 in
set_option maxHeartbeats 4000000 in
theorem halfG_yes (po : Option Addr) (no co : Nat) (O : List Int) (pt : Option Addr) (nt ct : Nat) (T : List Int) (w : World) (hO : Rd w 1 po no (encI O)) (hT : Rd w 1 pt nt (encI T)) (hct : nt ≤ ct) (h : offB O T = true) : Calls Try.prog 75 #[.slice po no co, .slice pt nt ct] w fun e w' => e = .returned (.bool (halfB O T)) ∧ Ext w w' := by
  have p1 := hO.ptr
  have n1 := hO.small
  have n2 := hT.small
  have l1 := hO.nI
  have l2 := hT.nI
  have hhb := Lib.hid (halfB_pairs h)
  have HOK := Lib.hid (offOk_of h)
  obtain ⟨r1, r2, r3, r4, r5, r6⟩ := offB_parts h
  have S0 := Lib.hid (((Sep.start w).al #[.bool false] 4 w.heap.size rfl).al #[.int .i64 ((no:Int) - 1)] 3 (w.heap.size + 1) (by simp))
  have HSo := Lib.hid (fun W1 (h : Ext w W1) => IsSortedI po no co O W1 (hO.ext h) (by omega))
  rw [r6] at HSo
  have d1 : decide ((no:Int) - 1 < 1) = false := by simp; omega
  have d2 : decide (200 < (no:Int) - 1) = false := by simp; omega
  have d3 : decide ((2000:Int) < nt) = false := by simp; omega
  have g0 := S0.out.ext.cell (hO.cI (k := 0) (by omega))
  have q1 : (0:Int) < no := by omega
  have d4 : (nth O 0 != 0) = false := by simpa using r4
  have g5 := S0.out.ext.cell (hO.cI (k := no - 1) (by omega))
  have q2 : (0:Int) ≤ (no:Int) - 1 := by omega
  have q3 : (no:Int) - 1 < no := by omega
  have d5 : (nth O (no - 1) != (nt:Int)) = false := by rw [← l1, ← l2] at r5; simpa using r5
  have L1 : Hid (((O.length - 1 : Nat) : Int) = (no:Int) - 1) := by unfold Hid; omega
  rw [L1.out] at hhb
  have hO0 : 0 < no → (adr po 0).block < w.heap.size := fun h => hO.lt (by omega)
  have hT0 : 0 < nt → (adr pt 0).block < w.heap.size := fun h => hT.lt (by omega)
  have HO := Lib.hid hO; clear hO
  have HT := Lib.hid hT; clear hT
  clear r1 r2 r3 r4 r5 r6 h l1 l2
  refine (callsIn_wide (n := 9)).1 ?_
  refine callsIn_of_wp_marks Try.func75 rfl trivial ?_ rfl
  simp only [Try.ntmps75, List.size_toArray, List.length_cons, List.length_nil, Nat.reduceAdd, Nat.reduceSub, Array.replicate_succ, Array.replicate_zero, List.push_toArray, List.append_toArray, List.nil_append, List.cons_append]
  refine wpIn_wide.2 ?_
  go_wp2_with (first
    | (go_at_call 76; go_must (refine (allG po no co pt nt ct _).mono ?_; rintro e w3 ⟨rfl, hw3⟩; have S3 := (((S2.out.al #[.int .i64 (-1)] 3 w2.heap.size rfl).al #[.int .i64 0] 3 (w2.heap.size + 1) (by simp)).al #[.slice po no co] 38 (w2.heap.size + 1 + 1) (by simp)).al #[.slice pt nt ct] 38 (w2.heap.size + 1 + 1 + 1) (by simp); rw [← hw3] at S3; have S4 := Lib.hid (S3 : Sep w w3 (halfPc w.heap.size w2.heap.size po no co pt nt ct (-1, 0) false)); clear S3 hw3))
    | (go_at_call 100; go_must (refine (HSo.out _ S0.out.ext).mono ?_; rintro e w2 ⟨rfl, hb⟩; have S2 := Lib.hid (S0.out.call hb); have c4 := (S2.out.blk 1 rfl).cell 0; have c5 := (S2.out.blk 0 rfl).cell 0; have z4 := (S2.out.blk 1 rfl).lt; have z5 := (S2.out.blk 0 rfl).lt; clear hb)))
  clear S0 S2 HSo g0 g5 c4 c5
  generalize w2.heap.size = b at *
  refine wpIn_wide.1 (wpIn_rangeFunc_ownG (F := Fence.wide) (n := 9) rfl (by omega) (gf := 102) (lb := #[.pointer (some ⟨b + 1 + 1, 0, none⟩), .pointer (some ⟨b + 1 + 1 + 1, 0, none⟩)]) rfl trivial (enters_of Try.func102 (by kernel_rfl) rfl)
    (all_stops 8 (by omega) (b + 1 + 1) (b + 1 + 1 + 1) w.heap.size po no co pt nt ct O T w3 S4.out.ext.size (S4.out.blk 1 rfl) (S4.out.blk 0 rfl) (HO.out.ext S4.out.ext) (HT.out.ext S4.out.ext) hO0 hT0 HOK.out hct)
    (fun h k => KpA.trans h k) (kpA_b S4.out.ext.size (S4.out.blk 1 rfl).lt (S4.out.blk 0 rfl).lt) (Below.refl _ _) (fun _ => rfl)
    (fun pre W => okFrom ((no:Int) - 1) (-1, 0) (pre.map (·.1)) = true ∧ Sep w W (halfPc w.heap.size b po no co pt nt ct (lastP (-1, 0) (pre.map (·.1))) false))
    (fun c pre W => (c = .ret ∧ okFrom ((no:Int) - 1) (-1, 0) (pre.map (·.1)) = false) ∧ ∃ p, Sep w W (halfPc w.heap.size b po no co pt nt ct p false))
    ?hI ?hIx ⟨rfl, S4.out⟩ ?a1 ?assign ?body ?done ?stop)
  case hI => exact fun s A B row hs hg hr => ⟨hs.1, hs.2.turn (halfPc_cells _ _ _ _ _ _ _ _ _ _) S4.out.ext.size hg hr⟩
  case hIx => exact fun c s A B row hs hg hr => ⟨hs.1, hs.2.elim fun p S => ⟨p, S.turn (halfPc_cells _ _ _ _ _ _ _ _ _ _) S4.out.ext.size hg hr⟩⟩
  case assign =>
    intro l x W K hK
    gi_wp2
    exact hK
  case body =>
    rintro l pre ⟨⟨v, u⟩, hx⟩ W ⟨ho, S⟩ _
    have hsn := okFrom_snoc ((no:Int) - 1) (-1, 0) (pre.map (·.1)) (v, u)
    rw [ho, Bool.true_and] at hsn
    have hls := lastP_snoc (-1, 0) (pre.map (·.1)) (v, u)
    have hm : (pre ++ [(⟨(v, u), hx⟩ : PairOf O T)]).map (·.1) = pre.map (·.1) ++ [(v, u)] := by simp
    rw [← hm] at hsn hls
    obtain ⟨p, hp⟩ : ∃ p, p = lastP (-1, 0) (pre.map (·.1)) := ⟨_, rfl⟩
    rw [← hp] at S hsn
    have HSN := Lib.hid hsn
    have HLS := Lib.hid hls
    have c7 := (S.blk 2 rfl).cell 0
    have c6 := (S.blk 3 rfl).cell 0
    have c5 := (S.blk 4 rfl).cell 0
    have c4 := (S.blk 5 rfl).cell 0
    have f7 := (S.blk 2 rfl).frozen 0
    have f6 := (S.blk 3 rfl).frozen 0
    have f4 := (S.blk 5 rfl).frozen 0
    have z7 := (S.blk 2 rfl).lt
    have z6 := (S.blk 3 rfl).lt
    have z5 := (S.blk 4 rfl).lt
    have z4 := (S.blk 5 rfl).lt
    have y1 : b ≠ b + 1 := by omega
    have HW := Lib.hid (withinG ((no:Int) - 1 - 1) (some ⟨W.heap.size, 0, none⟩) 1 1 [u] _ (Rd.oneI W 3 u))
    have hwd : withB ((no:Int) - 1 - 1) [u] = (decide (0 ≤ u) && decide (u ≤ (no:Int) - 1 - 1)) := by simp [withB]
    have SH := Lib.hid S; clear S
    clear hsn hls hm ho hp S4 HO HT HOK hO0 hT0 hhb
    by_cases hu : 0 ≤ u ∧ u ≤ (no:Int) - 1 - 1
    · rw [hwd, decide_eq_true hu.1, decide_eq_true hu.2] at HW
      have hu2 : decide (u < (no:Int) - 1) = true := by simp; omega
      by_cases hv : v = p.1
      · have e1 : (v == p.1) = true := by simpa using hv
        by_cases hw : u ≤ p.2
        · have e2 : decide (u ≤ p.2) = true := by simpa using hw
          have HF : Hid (okFrom ((no:Int) - 1) (-1, 0) ((pre ++ [(⟨(v, u), hx⟩ : PairOf O T)]).map (·.1)) = false) := by
            unfold Hid; rw [HSN.out]; unfold okStep; simp [hv, hw]
          clear hv hw hwd
          gi_wp2_with (refine ⟨trivial, ?_⟩; gi_at_call 101; refine (CallsIn.inRound l (callsIn_wide.2 HW.out)).mono ?_; rintro e w' ⟨rfl, rfl⟩)
          exact ⟨((KeepsOthers.setCell W _ _).trans (KeepsOthers.alloc _ _)).from _, ⟨rfl, HF.out⟩, p, (SH.out.set 5 rfl 0 (.bool false)).junk _⟩
        · have e2 : decide (u ≤ p.2) = false := by simpa using hw
          have HF : Hid (okFrom ((no:Int) - 1) (-1, 0) ((pre ++ [(⟨(v, u), hx⟩ : PairOf O T)]).map (·.1)) = true) := by
            unfold Hid; rw [HSN.out]; unfold okStep; simp [hu.1, hw]; omega
          clear hv hw hwd
          gi_wp2_with (refine ⟨trivial, ?_⟩; gi_at_call 101; refine (CallsIn.inRound l (callsIn_wide.2 HW.out)).mono ?_; rintro e w' ⟨rfl, rfl⟩)
          have S' := ((SH.out.set 3 rfl 0 (.int .i64 v)).set 2 rfl 0 (.int .i64 u)).junk (.cells #[.int .i64 u] 3)
          exact ⟨(((KeepsOthers.setCell W _ _).trans (KeepsOthers.setCell _ _ _)).trans (KeepsOthers.alloc _ _)).from _, kpA_of SH.out.ext S'.ext (by simp) (SH.out.blk 1 rfl) (SH.out.blk 0 rfl) (S'.blk 1 rfl) (S'.blk 0 rfl), HF.out, by rw [HLS.out]; exact S'⟩
      · have e1 : (v == p.1) = false := by simpa using hv
        have HF : Hid (okFrom ((no:Int) - 1) (-1, 0) ((pre ++ [(⟨(v, u), hx⟩ : PairOf O T)]).map (·.1)) = true) := by
          unfold Hid; rw [HSN.out]; unfold okStep; simp [hu.1, hv]; omega
        clear hv hwd
        gi_wp2_with (refine ⟨trivial, ?_⟩; gi_at_call 101; refine (CallsIn.inRound l (callsIn_wide.2 HW.out)).mono ?_; rintro e w' ⟨rfl, rfl⟩)
        have S' := ((SH.out.set 3 rfl 0 (.int .i64 v)).set 2 rfl 0 (.int .i64 u)).junk (.cells #[.int .i64 u] 3)
        exact ⟨(((KeepsOthers.setCell W _ _).trans (KeepsOthers.setCell _ _ _)).trans (KeepsOthers.alloc _ _)).from _, kpA_of SH.out.ext S'.ext (by simp) (SH.out.blk 1 rfl) (SH.out.blk 0 rfl) (S'.blk 1 rfl) (S'.blk 0 rfl), HF.out, by rw [HLS.out]; exact S'⟩
    · have hwf : withB ((no:Int) - 1 - 1) [u] = false := by
        rw [hwd]
        by_cases h1 : 0 ≤ u
        · simp [h1]; omega
        · simp [h1]
      rw [hwf] at HW
      have HF : Hid (okFrom ((no:Int) - 1) (-1, 0) ((pre ++ [(⟨(v, u), hx⟩ : PairOf O T)]).map (·.1)) = false) := by
        unfold Hid; rw [HSN.out]; unfold okStep
        have : (decide (0 ≤ u) && decide (u < (no:Int) - 1)) = false := by
          by_cases h1 : 0 ≤ u
          · simp [h1]; omega
          · simp [h1]
        simp only [this, Bool.false_and]
      clear hwd hwf
      gi_wp2_with (refine ⟨trivial, ?_⟩; gi_at_call 101; refine (CallsIn.inRound l (callsIn_wide.2 HW.out)).mono ?_; rintro e w' ⟨rfl, rfl⟩)
      exact ⟨((KeepsOthers.setCell W _ _).trans (KeepsOthers.alloc _ _)).from _, ⟨rfl, HF.out⟩, p, (SH.out.set 5 rfl 0 (.bool false)).junk _⟩
  case done =>
    rintro D ys W hD hys ⟨ho, S⟩ hK
    have HF : Hid (halfB O T = true) := by unfold Hid; rw [hhb.out, ← hys]; exact ho
    have c4 := (S.blk 5 rfl).cell 0
    have f4 := (S.blk 5 rfl).frozen 0
    have z4 := (S.blk 5 rfl).lt
    have hKs := (KeepsOthers.setCell W ⟨w.heap.size, 0, none⟩ (.bool true)).same D _ hK rfl
    have S' := (S.set 5 rfl 0 (.bool true)).putObj (halfPc_cells w.heap.size b po no co pt nt ct _ true) (.deferred none) (Nat.le_trans S4.out.ext.size hD) hKs rfl
    have k4 := (S'.blk 5 rfl).cell 0
    have SH := Lib.hid S; clear S
    have SH' := Lib.hid S'; clear S'
    go_wp2
    refine ⟨by simp, .inl ⟨_, _, rfl, run_takeDeferred hKs, ?_⟩⟩
    exact ⟨.bool true, by simp [results, Try.results75, go_sem, k4], ret_bool HF.out.symm, SH'.out.ext⟩
  case stop =>
    rintro D c pre W hD hSp ⟨⟨rfl, hno⟩, p, S⟩ hK
    have HF : Hid (halfB O T = false) := by unfold Hid; rw [hhb.out]; exact okFrom_no hno hSp
    have S' := S.putObj (halfPc_cells w.heap.size b po no co pt nt ct _ false) (.deferred none) (Nat.le_trans S4.out.ext.size hD) hK rfl
    have k4 := (S'.blk 5 rfl).cell 0
    have SH := Lib.hid S; clear S
    have SH' := Lib.hid S'; clear S'
    refine wpIn_wide.2 ?_
    go_wp2
    refine ⟨by simp, .inl ⟨_, _, rfl, run_takeDeferred hK, ?_⟩⟩
    exact ⟨.bool false, by simp [results, Try.results75, go_sem, k4], ret_bool HF.out.symm, SH'.out.ext⟩
theorem halfG (po : Option Addr) (no co : Nat) (O : List Int) (pt : Option Addr) (nt ct : Nat) (T : List Int) (w : World) (hO : Rd w 1 po no (encI O)) (hT : Rd w 1 pt nt (encI T)) (hct : nt ≤ ct) : Calls Try.prog 75 #[.slice po no co, .slice pt nt ct] w fun e w' => e = .returned (.bool (halfB O T)) ∧ Ext w w' := by
  cases h : offB O T with
  | false =>
    have : halfB O T = false := by unfold halfB; rw [h]; rfl
    rw [this]
    exact halfG_no po no co O pt nt ct T w hO hT hct h
  | true => exact halfG_yes po no co O pt nt ct T w hO hT hct h
end Go.Proofs.Ytcjkechemjdboaa
/- The program's Check of rows. -/
namespace Go.Proofs.Ytcjkechemjdboaa
open Go Go.RowKit Go.Shelf Go.Lib
attribute [local go_sem] Oper.semAt_some
theorem BinI (p : Option Addr) (n c : Nat) (l : List Int) (x : Int) (w : World) (hl : Rd w 1 p n (encI l)) (hs : Rises ltI l) (hn : n ≤ 1000000) :
    Calls Try.prog 77 #[.slice p n c, .int .i64 x] w fun e w' => e = .returned (.tuple #[.int .i64 (l.countP (· < x) : Nat), .bool (inB l x)]) ∧ Ext w w' := by
  have ln := hl.nI
  have hin : inB l x = l.contains x := by rw [Bool.eq_iff_iff, inB_iff]; simp
  rw [hin]
  rcases hl.ptr with h0 | ⟨b, o, rfl⟩
  · subst h0
    have : l = [] := List.eq_nil_of_length_eq_zero ln.symm
    subst this
    exact (Any.slices_BinarySearch_int_empty Try.binI p c x w).mono fun e w' h => ⟨by have := h.1; simpa using this, by rw [h.2]; exact Below.refl _ _⟩
  · have ht : l.take n = l := List.take_of_length_le (by omega)
    have := Any.slices_BinarySearch_int Try.binI b o n c l x w (by omega) (by omega) (fun j hj => by
      have h1 := hl.cI (k := j) (by omega)
      rw [adr_some] at h1
      rw [h1, nth_eq hj, List.getD_eq_getElem?_getD, List.getElem?_eq_getElem hj]; rfl) (by rw [ht]; exact hs.imp (fun {a b} h => by simp [ltI] at h; omega))
    rw [ht] at this
    exact this.mono fun e w' h => ⟨h.1, by obtain ⟨q, hq⟩ := h.2; rw [hq]; exact Ext.drewN (Below.refl _ _) q⟩
theorem ContI (p : Option Addr) (n c : Nat) (l : List Int) (x : Int) (w : World) (hl : Rd w 1 p n (encI l)) :
    Calls Try.prog 79 #[.slice p n c, .int .i64 x] w fun e w' => e = .returned (.bool (inB l x)) ∧ Ext w w' := by
  have ln := hl.nI
  have hin : inB l x = l.contains x := by rw [Bool.eq_iff_iff, inB_iff]; simp
  rw [hin]
  rcases hl.ptr with h0 | ⟨b, o, rfl⟩
  · subst h0
    have : l = [] := List.eq_nil_of_length_eq_zero ln.symm
    subst this
    exact (Any.slices_Contains_int_empty Try.hasI p c x w).mono fun e w' h => ⟨by have := h.1; simpa using this, by rw [h.2]; exact Below.refl _ _⟩
  · have ht : l.take n = l := List.take_of_length_le (by omega)
    have := Any.slices_Contains_int Try.hasI b o n c l x w (by omega) hl.small (fun j hj => by
      have h1 := hl.cI (k := j) (by omega)
      rw [adr_some] at h1
      rw [h1, nth_eq hj, List.getD_eq_getElem?_getD, List.getElem?_eq_getElem hj]; rfl)
    rw [ht] at this
    exact this.mono fun e w' h => ⟨h.1, by rw [h.2]; exact Below.refl _ _⟩
theorem checkR_no {O T R V : List Int} (h : O.length ≠ R.length ∨ T.length ≠ V.length ∨ halfB O T = false ∨ halfB R V = false) : checkR O T R V = false := by
  unfold checkR
  rcases h with h | h | h | h <;> simp [h]
set_option maxRecDepth 100000 in
set_option maxHeartbeats 4000000 in
theorem CheckR_no (po : Option Addr) (no co : Nat) (O : List Int) (pt : Option Addr) (nt ct : Nat) (T : List Int) (pr : Option Addr) (nr cr : Nat) (R : List Int) (pv : Option Addr) (nv cv : Nat) (V : List Int) (w : World) (hO : Rd w 1 po no (encI O)) (hT : Rd w 1 pt nt (encI T)) (hR : Rd w 1 pr nr (encI R)) (hV : Rd w 1 pv nv (encI V)) (hct : nt ≤ ct) (hcv : nv ≤ cv) (h : no ≠ nr ∨ nt ≠ nv ∨ halfB O T = false ∨ halfB R V = false) :
    Calls Try.prog 41 #[.agg #[.slice po no co, .slice pt nt ct, .slice pr nr cr, .slice pv nv cv]] w fun e w' => e = .returned (.bool false) ∧ Ext w w' := by
  have n1 := hO.small
  have n2 := hT.small
  have n3 := hR.small
  have n4 := hV.small
  have S0 := Lib.hid (((Sep.start w).al #[.slice po no co, .slice pt nt ct, .slice pr nr cr, .slice pv nv cv] 52 w.heap.size rfl).al #[.bool false] 4 (w.heap.size + 1) (by simp))
  have HH1 := Lib.hid (fun W1 (h : Ext w W1) => halfG po no co O pt nt ct T W1 (hO.ext h) (hT.ext h) hct)
  have HH2 := Lib.hid (fun W1 (h : Ext w W1) => halfG pr nr cr R pv nv cv V W1 (hR.ext h) (hV.ext h) hcv)
  clear hO hT hR hV
  by_cases h1 : no = nr
  · have d1 : ((no:Int) != (nr:Int)) = false := by simp; omega
    by_cases h2 : nt = nv
    · have d2 : ((nt:Int) != (nv:Int)) = false := by simp; omega
      cases h3 : halfB O T with
      | false =>
        rw [h3] at HH1
        clear h h1 h2 h3
        go_enter Try.func41, Try.ntmps41
        go_wp2_with (go_at_call 75; go_must (refine (HH1.out _ S0.out.ext).mono ?_; rintro e w1 ⟨rfl, hb⟩; have S1 := Lib.hid (S0.out.call hb); have a0 := (S1.out.blk 1 rfl).cell 0; have a1 := (S1.out.blk 1 rfl).cell 1; have a2 := (S1.out.blk 1 rfl).cell 2; have a3 := (S1.out.blk 1 rfl).cell 3; have za := (S1.out.blk 1 rfl).lt; have b0 := (S1.out.blk 0 rfl).cell 0; have f0 := (S1.out.blk 0 rfl).frozen 0; have zb := (S1.out.blk 0 rfl).lt; clear hb))
        refine bodyPost_ret (v := .bool false) (by simp [results, Try.results41, go_sem, b0]) rfl ⟨rfl, (S1.out.set 0 rfl 0 _).ext⟩
      | true =>
        have h4 : halfB R V = false := by
          rcases h with h | h | h | h
          · exact absurd h1 h
          · exact absurd h2 h
          · rw [h3] at h; cases h
          · exact h
        rw [h3] at HH1
        rw [h4] at HH2
        clear h h1 h2 h3 h4
        go_enter Try.func41, Try.ntmps41
        go_wp2_with (first | (go_at_call 75; have _t := S1; go_must (refine (HH2.out _ S1.out.ext).mono ?_; rintro e w2 ⟨rfl, hb⟩; have S2 := Lib.hid (S1.out.call hb); have A0 := (S2.out.blk 1 rfl).cell 0; have A1 := (S2.out.blk 1 rfl).cell 1; have A2 := (S2.out.blk 1 rfl).cell 2; have A3 := (S2.out.blk 1 rfl).cell 3; have zA := (S2.out.blk 1 rfl).lt; have B0 := (S2.out.blk 0 rfl).cell 0; have F0 := (S2.out.blk 0 rfl).frozen 0; have zB := (S2.out.blk 0 rfl).lt; clear hb)) | (go_at_call 75; go_must (refine (HH1.out _ S0.out.ext).mono ?_; rintro e w1 ⟨rfl, hb⟩; have S1 := Lib.hid (S0.out.call hb); have a0 := (S1.out.blk 1 rfl).cell 0; have a1 := (S1.out.blk 1 rfl).cell 1; have a2 := (S1.out.blk 1 rfl).cell 2; have a3 := (S1.out.blk 1 rfl).cell 3; have za := (S1.out.blk 1 rfl).lt; have b0 := (S1.out.blk 0 rfl).cell 0; have f0 := (S1.out.blk 0 rfl).frozen 0; have zb := (S1.out.blk 0 rfl).lt; clear hb)))
        refine bodyPost_ret (v := .bool false) (by simp [results, Try.results41, go_sem, B0]) rfl ⟨rfl, (S2.out.set 0 rfl 0 _).ext⟩
    · have d2 : ((nt:Int) != (nv:Int)) = true := by simp; omega
      clear h h1 h2
      go_enter Try.func41, Try.ntmps41
      go_wp2
      refine bodyPost_ret (v := .bool false) (by simp [results, Try.results41, go_sem]) rfl ⟨rfl, ?_⟩
      first | exact S0.out.ext | exact (S0.out.set 0 rfl 0 _).ext
  · have d1 : ((no:Int) != (nr:Int)) = true := by simp; omega
    clear h h1
    go_enter Try.func41, Try.ntmps41
    go_wp2
    refine bodyPost_ret (v := .bool false) (by simp [results, Try.results41, go_sem]) rfl ⟨rfl, ?_⟩
    first | exact S0.out.ext | exact (S0.out.set 0 rfl 0 _).ext
end Go.Proofs.Ytcjkechemjdboaa
/- The program's Check of rows, where both halves are right: each pair is looked for, turned. -/
namespace Go.Proofs.Ytcjkechemjdboaa
open Go Go.RowKit Go.Shelf Go.Lib
attribute [local go_sem] Oper.semAt_some
def chkPc (a b : Nat) (po : Option Addr) (no co : Nat) (pt : Option Addr) (nt ct : Nat) (pr : Option Addr) (nr cr : Nat) (pv : Option Addr) (nv cv : Nat) (r : Bool) : List Pc :=
  [.blk (b + 1) 38 #[.slice pt nt ct], .blk b 38 #[.slice po no co], .blk (a + 1) 4 #[.bool r], .blk a 52 #[.slice po no co, .slice pt nt ct, .slice pr nr cr, .slice pv nv cv]]
theorem chkPc_cells (a b : Nat) (po : Option Addr) (no co : Nat) (pt : Option Addr) (nt ct : Nat) (pr : Option Addr) (nr cr : Nat) (pv : Option Addr) (nv cv : Nat) (r : Bool) : ∀ q ∈ chkPc a b po no co pt nt ct pr nr cr pv nv cv r, q.cells :=
  cells_all fun q hq => by simp [chkPc] at hq; rcases hq with h | h | h | h <;> exact .inl ⟨_, _, _, h⟩
/-- the pair stands in the other rows, turned -/
def backB (R V : List Int) (x : Int × Int) : Bool := inB (rowL R V x.2.toNat) x.1
theorem pair_bd {O T : List Int} (h : halfB O T = true) {x : Int × Int} (hx : x ∈ pairs O T) : 0 ≤ x.1 ∧ x.1 < ((O.length - 1 : Nat) : Int) ∧ 0 ≤ x.2 ∧ x.2 < ((O.length - 1 : Nat) : Int) := by
  obtain ⟨v, h1, h2, h3⟩ := mem_pairs.1 hx
  unfold halfB at h
  rw [Bool.and_eq_true] at h
  have := List.all_eq_true.1 h.2 v (List.mem_range.2 h1)
  have := (okRow_iff.1 this).1 _ h3
  omega
theorem row_rises {O T : List Int} (h : halfB O T = true) {v : Nat} (hv : v < O.length - 1) : Rises ltI (rowL O T v) := by
  unfold halfB at h
  rw [Bool.and_eq_true] at h
  exact (okRow_iff.1 (List.all_eq_true.1 h.2 v (List.mem_range.2 hv))).2
theorem halfB_off {O T : List Int} (h : halfB O T = true) : offB O T = true := by
  unfold halfB at h
  rw [Bool.and_eq_true] at h
  exact h.1
set_option maxRecDepth 100000 in
set_option maxHeartbeats 4000000 in
theorem CheckR_yes (po : Option Addr) (no co : Nat) (O : List Int) (pt : Option Addr) (nt ct : Nat) (T : List Int) (pr : Option Addr) (nr cr : Nat) (R : List Int) (pv : Option Addr) (nv cv : Nat) (V : List Int) (w : World) (hO : Rd w 1 po no (encI O)) (hT : Rd w 1 pt nt (encI T)) (hR : Rd w 1 pr nr (encI R)) (hV : Rd w 1 pv nv (encI V)) (hct : nt ≤ ct) (hcv : nv ≤ cv) (e1 : no = nr) (e2 : nt = nv) (h1 : halfB O T = true) (h2 : halfB R V = true) :
    Calls Try.prog 41 #[.agg #[.slice po no co, .slice pt nt ct, .slice pr nr cr, .slice pv nv cv]] w fun e w' => e = .returned (.bool ((pairs O T).all (backB R V))) ∧ Ext w w' := by
  have n1 := hO.small
  have n2 := hT.small
  have n3 := hR.small
  have n4 := hV.small
  have l1 := hO.nI
  have l2 := hT.nI
  have l3 := hR.nI
  have l4 := hV.nI
  have pR := hR.ptr
  have S0 := Lib.hid (((Sep.start w).al #[.slice po no co, .slice pt nt ct, .slice pr nr cr, .slice pv nv cv] 52 w.heap.size rfl).al #[.bool false] 4 (w.heap.size + 1) (by simp))
  have HH1 := Lib.hid (fun W1 (h : Ext w W1) => halfG po no co O pt nt ct T W1 (hO.ext h) (hT.ext h) hct)
  have HH2 := Lib.hid (fun W1 (h : Ext w W1) => halfG pr nr cr R pv nv cv V W1 (hR.ext h) (hV.ext h) hcv)
  rw [h1] at HH1
  rw [h2] at HH2
  have d1 : ((no:Int) != (nr:Int)) = false := by simp; omega
  have d2 : ((nt:Int) != (nv:Int)) = false := by simp; omega
  have HOK := Lib.hid (offOk_of (halfB_off h1))
  have HOK2 := Lib.hid (offOk_of (halfB_off h2))
  have HPB := Lib.hid (fun x (hx : x ∈ pairs O T) => pair_bd h1 hx)
  have HRR := Lib.hid (fun v (hv : v < R.length - 1) => row_rises h2 hv)
  have r3 := (offB_parts (halfB_off h2)).2.2.1
  have hO0 : 0 < no → (adr po 0).block < w.heap.size := fun h => hO.lt (by omega)
  have hT0 : 0 < nt → (adr pt 0).block < w.heap.size := fun h => hT.lt (by omega)
  have L1 := Lib.hid l1
  have L3 := Lib.hid l3
  have L4 := Lib.hid l4
  have E1 := Lib.hid e1
  have E2 := Lib.hid e2
  have HO := Lib.hid hO; clear hO
  have HT := Lib.hid hT; clear hT
  have HR := Lib.hid hR; clear hR
  have HV := Lib.hid hV; clear hV
  clear h1 h2 l1 l2 l3 l4 e1 e2
  refine (callsIn_wide (n := 9)).1 ?_
  refine callsIn_of_wp_marks Try.func41 rfl trivial ?_ rfl
  simp only [Try.ntmps41, List.size_toArray, List.length_cons, List.length_nil, Nat.reduceAdd, Nat.reduceSub, Array.replicate_succ, Array.replicate_zero, List.push_toArray, List.append_toArray, List.nil_append, List.cons_append]
  refine wpIn_wide.2 ?_
  go_wp2_with (first
    | (go_at_call 76; go_must (refine (allG po no co pt nt ct _).mono ?_; rintro e w3 ⟨rfl, hw3⟩; have S3 := (S2.out.al #[.slice po no co] 38 w2.heap.size rfl).al #[.slice pt nt ct] 38 (w2.heap.size + 1) (by simp); rw [← hw3] at S3; have S4 := Lib.hid (S3 : Sep w w3 (chkPc w.heap.size w2.heap.size po no co pt nt ct pr nr cr pv nv cv false)); clear S3 hw3))
    | (go_at_call 75; have _t := S1; go_must (refine (HH2.out _ S1.out.ext).mono ?_; rintro e w2 ⟨rfl, hb⟩; have S2 := Lib.hid (S1.out.call hb); have A0 := (S2.out.blk 1 rfl).cell 0; have A1 := (S2.out.blk 1 rfl).cell 1; have zA := (S2.out.blk 1 rfl).lt; clear hb))
    | (go_at_call 75; go_must (refine (HH1.out _ S0.out.ext).mono ?_; rintro e w1 ⟨rfl, hb⟩; have S1 := Lib.hid (S0.out.call hb); have a2 := (S1.out.blk 1 rfl).cell 2; have a3 := (S1.out.blk 1 rfl).cell 3; have za := (S1.out.blk 1 rfl).lt; clear hb)))
  clear S0 S1 S2 HH1 HH2 A0 A1 a2 a3
  generalize w2.heap.size = b at *
  refine wpIn_wide.1 (wpIn_rangeFunc_ownG (F := Fence.wide) (n := 9) rfl (by omega) (gf := 102) (lb := #[.pointer (some ⟨b, 0, none⟩), .pointer (some ⟨b + 1, 0, none⟩)]) rfl trivial (enters_of Try.func102 (by kernel_rfl) rfl)
    (all_stops 8 (by omega) b (b + 1) w.heap.size po no co pt nt ct O T w3 S4.out.ext.size (S4.out.blk 1 rfl) (S4.out.blk 0 rfl) (HO.out.ext S4.out.ext) (HT.out.ext S4.out.ext) hO0 hT0 HOK.out hct)
    (fun h k => KpA.trans h k) (kpA_b S4.out.ext.size (S4.out.blk 1 rfl).lt (S4.out.blk 0 rfl).lt) (Below.refl _ _) (fun _ => rfl)
    (fun pre W => (pre.map (·.1)).all (backB R V) = true ∧ Sep w W (chkPc w.heap.size b po no co pt nt ct pr nr cr pv nv cv false))
    (fun c pre W => (c = .ret ∧ (pre.map (·.1)).all (backB R V) = false) ∧ Sep w W (chkPc w.heap.size b po no co pt nt ct pr nr cr pv nv cv false))
    ?hI ?hIx ⟨rfl, S4.out⟩ ?a1 ?assign ?body ?done ?stop)
  case hI => exact fun s A B row hs hg hr => ⟨hs.1, hs.2.turn (chkPc_cells _ _ _ _ _ _ _ _ _ _ _ _ _ _ _) S4.out.ext.size hg hr⟩
  case hIx => exact fun c s A B row hs hg hr => ⟨hs.1, hs.2.turn (chkPc_cells _ _ _ _ _ _ _ _ _ _ _ _ _ _ _) S4.out.ext.size hg hr⟩
  case assign =>
    intro l x W K hK
    gi_wp2
    exact hK
  case body =>
    rintro l pre ⟨⟨v, u⟩, hx⟩ W ⟨ho, S⟩ _
    have hm : (pre ++ [(⟨(v, u), hx⟩ : PairOf O T)]).map (·.1) = pre.map (·.1) ++ [(v, u)] := by simp
    have hsn : ((pre ++ [(⟨(v, u), hx⟩ : PairOf O T)]).map (·.1)).all (backB R V) = backB R V (v, u) := by rw [hm, List.all_append, ho]; simp
    have HSN := Lib.hid hsn
    obtain ⟨x1, x2, x3, x4⟩ := HPB.out _ hx
    simp only at x1 x2 x3 x4
    obtain ⟨k, rfl⟩ : ∃ k : Nat, u = (k : Int) := ⟨u.toNat, by omega⟩
    have hk1 : k + 1 < R.length := by have := L1.out; have := L3.out; have := E1.out; omega
    have hk2 : k + 1 < nr := by rw [L3.out]; exact hk1
    have q1 := HOK2.out.lo k (by omega)
    have q2 := HOK2.out.le k hk1
    have q3 := HOK2.out.hi (k + 1) hk1
    have RR := HR.out.ext S.ext
    have g1 := RR.cI (k := k) (by omega)
    have g2 := RR.cI (k := k + 1) (by omega)
    have RL := (HV.out.ext S.ext).rowOf HOK2.out hcv hk1
    have hrs := HRR.out k (by omega)
    have hbk : backB R V (v, (k:Int)) = inB (rowL R V k) v := by unfold backB; simp
    obtain ⟨a, ha⟩ : ∃ a : Nat, nth R k = (a : Int) := ⟨(nth R k).toNat, by omega⟩
    obtain ⟨c, hc⟩ : ∃ c : Nat, nth R (k + 1) = (c : Int) := ⟨(nth R (k + 1)).toNat, by omega⟩
    rw [ha] at g1 q1 q2 RL
    rw [hc] at g2 q2 q3 RL
    have hq3 : (c:Int) ≤ cv := by have := L4.out; omega
    simp only [Int.toNat_natCast] at RL
    have HB := Lib.hid (fun x : ExtOf W => BinI (cutp pv cv a 1) (c - a) (cv - a) (rowL R V k) v x.val (RL.ext x.ext) hrs (by have := L4.out; omega))
    have c0 := (S.blk 3 rfl).cell 2
    have c1 := (S.blk 3 rfl).cell 3
    have c4 := (S.blk 2 rfl).cell 0
    have f4 := (S.blk 2 rfl).frozen 0
    have z4 := (S.blk 2 rfl).lt
    have d3 : (0:Int) ≤ k := by omega
    have d4 : (k:Int) < nr := by omega
    have d5 : (0:Int) ≤ (k:Int) + 1 := by omega
    have d6 : (k:Int) + 1 < nr := by omega
    rw [hbk] at HSN
    have SH := Lib.hid S; clear S
    clear hsn hm ho S4 HO HT HR HV HOK HOK2 hO0 hT0 HPB HRR RR RL ha hc hrs hbk x1 x2 x3 x4 q3
    cases hin : inB (rowL R V k) v with
    | true =>
      rw [hin] at HB HSN
      clear hin
      gi_wp2
      have y0 := fun x : ExtOf W => x.ext.cell c0
      have y1 := fun x : ExtOf W => x.ext.cell c1
      have y2 := fun x : ExtOf W => x.ext.cell g1
      have y3 := fun x : ExtOf W => x.ext.cell g2
      refine wpIn_region_ext (by kernel_rfl) (by kernel_rfl) (by kernel_rfl) ?_
      repeat (go_big_quiet_step ((go_at_call 77; exact Calls.ext_of (HB.out _))))
      refine wpQuiet_nil ?_
      rintro w5 ⟨⟨_, hb5⟩, rfl⟩
      have S5 := Lib.hid (SH.out.call hb5)
      clear y0 y1 y2 y3
      gi_wp2
      exact ⟨(keeps_ext hb5).from _, kpA_of SH.out.ext S5.out.ext hb5.size (SH.out.blk 1 rfl) (SH.out.blk 0 rfl) (S5.out.blk 1 rfl) (S5.out.blk 0 rfl), HSN.out, S5.out⟩
    | false =>
      rw [hin] at HB HSN
      clear hin
      gi_wp2
      have y0 := fun x : ExtOf W => x.ext.cell c0
      have y1 := fun x : ExtOf W => x.ext.cell c1
      have y2 := fun x : ExtOf W => x.ext.cell g1
      have y3 := fun x : ExtOf W => x.ext.cell g2
      refine wpIn_region_ext (by kernel_rfl) (by kernel_rfl) (by kernel_rfl) ?_
      repeat (go_big_quiet_step ((go_at_call 77; exact Calls.ext_of (HB.out _))))
      refine wpQuiet_nil ?_
      rintro w5 ⟨⟨_, hb5⟩, rfl⟩
      have S5 := Lib.hid (SH.out.call hb5)
      have k4 := (S5.out.blk 2 rfl).cell 0
      have kf := (S5.out.blk 2 rfl).frozen 0
      have kz := (S5.out.blk 2 rfl).lt
      clear y0 y1 y2 y3 c4 f4 z4
      gi_wp2
      exact ⟨((keeps_ext hb5).trans (KeepsOthers.setCell _ _ _)).from _, ⟨rfl, HSN.out⟩, S5.out.set 2 rfl 0 (.bool false)⟩
  case done =>
    rintro D ys W hD hys ⟨ho, S⟩ hK
    have HF : Hid ((pairs O T).all (backB R V) = true) := by unfold Hid; rw [← hys]; exact ho
    have c4 := (S.blk 2 rfl).cell 0
    have f4 := (S.blk 2 rfl).frozen 0
    have z4 := (S.blk 2 rfl).lt
    have hKs := (KeepsOthers.setCell W ⟨w.heap.size + 1, 0, none⟩ (.bool true)).same D _ hK rfl
    have S' := (S.set 2 rfl 0 (.bool true)).putObj (chkPc_cells w.heap.size b po no co pt nt ct pr nr cr pv nv cv true) (.deferred none) (Nat.le_trans S4.out.ext.size hD) hKs rfl
    have k4 := (S'.blk 2 rfl).cell 0
    have SH := Lib.hid S; clear S
    have SH' := Lib.hid S'; clear S'
    go_wp2
    refine ⟨by simp, .inl ⟨_, _, rfl, run_takeDeferred hKs, ?_⟩⟩
    exact ⟨.bool true, by simp [results, Try.results41, go_sem, k4], ret_bool HF.out.symm, SH'.out.ext⟩
  case stop =>
    rintro D c pre W hD hSp ⟨⟨rfl, hno⟩, S⟩ hK
    have HF : Hid ((pairs O T).all (backB R V) = false) := by
      obtain ⟨t, ht⟩ := hSp
      unfold Hid; rw [← ht, List.all_append, hno]; rfl
    have S' := S.putObj (chkPc_cells w.heap.size b po no co pt nt ct pr nr cr pv nv cv false) (.deferred none) (Nat.le_trans S4.out.ext.size hD) hK rfl
    have k4 := (S'.blk 2 rfl).cell 0
    have SH := Lib.hid S; clear S
    have SH' := Lib.hid S'; clear S'
    refine wpIn_wide.2 ?_
    go_wp2
    refine ⟨by simp, .inl ⟨_, _, rfl, run_takeDeferred hK, ?_⟩⟩
    exact ⟨.bool false, by simp [results, Try.results41, go_sem, k4], ret_bool HF.out.symm, SH'.out.ext⟩
theorem CheckR (po : Option Addr) (no co : Nat) (O : List Int) (pt : Option Addr) (nt ct : Nat) (T : List Int) (pr : Option Addr) (nr cr : Nat) (R : List Int) (pv : Option Addr) (nv cv : Nat) (V : List Int) (w : World) (hO : Rd w 1 po no (encI O)) (hT : Rd w 1 pt nt (encI T)) (hR : Rd w 1 pr nr (encI R)) (hV : Rd w 1 pv nv (encI V)) (hct : nt ≤ ct) (hcv : nv ≤ cv) : Calls Try.prog 41 #[.agg #[.slice po no co, .slice pt nt ct, .slice pr nr cr, .slice pv nv cv]] w fun e w' => e = .returned (.bool (checkR O T R V)) ∧ Ext w w' := by
  have l1 := hO.nI
  have l2 := hT.nI
  have l3 := hR.nI
  have l4 := hV.nI
  by_cases h : no ≠ nr ∨ nt ≠ nv ∨ halfB O T = false ∨ halfB R V = false
  · rw [checkR_no (by rw [← l1, ← l2, ← l3, ← l4]; exact h)]
    exact CheckR_no po no co O pt nt ct T pr nr cr R pv nv cv V w hO hT hR hV hct hcv h
  · have h1 : no = nr := by
      by_cases h1 : no = nr
      · exact h1
      · exact absurd (.inl h1) h
    have h2 : nt = nv := by
      by_cases h2 : nt = nv
      · exact h2
      · exact absurd (.inr (.inl h2)) h
    have h3 : halfB O T = true := by
      cases h3 : halfB O T with
      | true => rfl
      | false => exact absurd (.inr (.inr (.inl h3))) h
    have h4 : halfB R V = true := by
      cases h4 : halfB R V with
      | true => rfl
      | false => exact absurd (.inr (.inr (.inr h4))) h
    have : checkR O T R V = (pairs O T).all (backB R V) := by
      unfold checkR
      rw [h3, h4, ← l1, ← l2, ← l3, ← l4, h1, h2]
      simp only [decide_true, Bool.true_and]
      rfl
    rw [this]
    exact CheckR_yes po no co O pt nt ct T pr nr cr R pv nv cv V w hO hT hR hV hct hcv h1 h2 h3 h4
end Go.Proofs.Ytcjkechemjdboaa
/- The program's rows of a place: row, Out, In, Has. -/
namespace Go.Proofs.Ytcjkechemjdboaa
open Go Go.RowKit Go.Shelf Go.Lib
/-- is a place told, by these offsets? -/
def outB (b : Bool) (A : List Int) (v : Int) : Bool := b && decide (0 ≤ v) && decide (v < (A.length : Int) - 1)
def outL (b : Bool) (A B : List Int) (v : Int) : List Int := if outB b A v = true then rowL A B v.toNat else []
theorem outL_no {b : Bool} {A B : List Int} {v : Int} (h : outB b A v = false) : outL b A B v = [] := by unfold outL; rw [h]; rfl
theorem outL_yes {b : Bool} {A B : List Int} {v : Int} (h : outB b A v = true) : outL b A B v = rowL A B v.toNat := by unfold outL; rw [h]; rfl
theorem checkR_half {O T R V : List Int} (h : checkR O T R V = true) : O.length = R.length ∧ T.length = V.length ∧ halfB O T = true ∧ halfB R V = true := by
  unfold checkR at h
  simp only [Bool.and_eq_true, decide_eq_true_eq] at h
  exact ⟨h.1.1.1.1, h.1.1.1.2, h.1.1.2, h.1.2⟩
set_option maxRecDepth 100000 in
set_option maxHeartbeats 4000000 in
theorem rowG (po : Option Addr) (no co : Nat) (O : List Int) (pt : Option Addr) (nt ct : Nat) (T : List Int) (pr : Option Addr) (nr cr : Nat) (R : List Int) (pv : Option Addr) (nv cv : Nat) (V : List Int) (w : World) (pa : Option Addr) (na ca : Nat) (A : List Int) (pb : Option Addr) (nb cb : Nat) (B : List Int) (v : Int) (hO : Rd w 1 po no (encI O)) (hT : Rd w 1 pt nt (encI T)) (hR : Rd w 1 pr nr (encI R)) (hV : Rd w 1 pv nv (encI V)) (hct : nt ≤ ct) (hcv : nv ≤ cv) (hA : Rd w 1 pa na (encI A)) (hB : Rd w 1 pb nb (encI B)) (hcb : nb ≤ cb) (hAB : checkR O T R V = true → offB A B = true) :
    Calls Try.prog 78 #[.agg #[.slice po no co, .slice pt nt ct, .slice pr nr cr, .slice pv nv cv], .slice pa na ca, .slice pb nb cb, .int .i64 v] w fun e w' => ∃ q c, e = .returned (.tuple #[.slice q (outL (checkR O T R V) A B v).length c, .bool (outB (checkR O T R V) A v)]) ∧ Sep w w' [.own 3 1 q (outL (checkR O T R V) A B v).length c (encI (outL (checkR O T R V) A B v))] := by
  have na1 := hA.small
  have nb1 := hB.small
  have l1 := Lib.hid hA.nI
  have l2 := Lib.hid hB.nI
  have pA := hA.ptr
  have S0 := Lib.hid ((Sep.start w).al #[.slice po no co, .slice pt nt ct, .slice pr nr cr, .slice pv nv cv] 52 w.heap.size rfl)
  have HC := Lib.hid (fun W1 (h : Ext w W1) => CheckR po no co O pt nt ct T pr nr cr R pv nv cv V W1 (hO.ext h) (hT.ext h) (hR.ext h) (hV.ext h) hct hcv)
  clear hO hT hR hV
  cases hck : checkR O T R V with
  | false =>
    rw [hck] at HC
    have hno : outB false A v = false := rfl
    rw [outL_no hno, hno]
    clear hA hB hAB hck hno
    go_enter Try.func78, Try.ntmps78
    go_wp2_with (go_at_call 41; go_must (refine (HC.out _ S0.out.ext).mono ?_; rintro e w1 ⟨rfl, hb⟩; have S1 := Lib.hid (S0.out.call hb); clear hb))
    go_ret2
    exact ⟨none, 0, rfl, ((Sep.start w).call S1.out.ext).nilrow _ _⟩
  | true =>
    rw [hck] at HC
    have hof := hAB hck
    have HOK := offOk_of hof
    have w2 := HOK.two
    have hwd : withB ((na:Int) - 2) [v] = outB true A v := by
      unfold withB outB
      rw [← l1.out]
      simp
      by_cases h1 : 0 ≤ v <;> simp [h1] <;> omega
    have HW := Lib.hid (fun W1 : World => withinG ((na:Int) - 2) (some ⟨W1.heap.size, 0, none⟩) 1 1 [v] _ (Rd.oneI W1 3 v))
    rw [hwd] at HW
    have q0 : (2:Int) ≤ na := by have := l1.out; omega
    cases ho : outB true A v with
    | false =>
      rw [ho] at HW
      rw [outL_no ho]
      clear hA hB hAB hck HOK hof hwd ho
      go_enter Try.func78, Try.ntmps78
      go_wp2_with (first | (go_at_call 101; go_must (refine (HW.out _).mono ?_; rintro e w2 ⟨rfl, rfl⟩)) | (go_at_call 41; go_must (refine (HC.out _ S0.out.ext).mono ?_; rintro e w1 ⟨rfl, hb⟩; have S1 := Lib.hid (S0.out.call hb); clear hb)))
      go_ret2
      exact ⟨none, 0, rfl, ((((Sep.start w).call S1.out.ext).junk _)).nilrow _ _⟩
    | true =>
      rw [ho] at HW
      have ho2 := ho
      unfold outB at ho2
      simp only [Bool.true_and, Bool.and_eq_true, decide_eq_true_eq] at ho2
      obtain ⟨v1, v2⟩ := ho2
      rw [outL_yes ho]
      obtain ⟨k, rfl⟩ : ∃ k : Nat, v = (k : Int) := ⟨v.toNat, by omega⟩
      rw [Int.toNat_natCast]
      have hk1 : k + 1 < A.length := by omega
      have q1 := HOK.lo k (by omega)
      have q2 := HOK.le k hk1
      have q3 := HOK.hi (k + 1) hk1
      have hrl := rowL_len HOK hk1
      have RL0 := hB.rowOf HOK hcb hk1
      have HA := Lib.hid hA
      obtain ⟨a, ha⟩ : ∃ a : Nat, nth A k = (a : Int) := ⟨(nth A k).toNat, by omega⟩
      obtain ⟨c, hc⟩ : ∃ c : Nat, nth A (k + 1) = (c : Int) := ⟨(nth A (k + 1)).toNat, by omega⟩
      rw [ha] at q1 q2 hrl RL0
      rw [hc] at q2 q3 hrl RL0
      simp only [Int.toNat_natCast] at hrl RL0
      have hq3 : (c:Int) ≤ cb := by have := l2.out; omega
      have hlen := (offB_parts hof).2.2.1
      have HLEN : Hid (c - a ≤ 100000) := by unfold Hid; have := l2.out; omega
      have d1 : (0:Int) ≤ k := by omega
      have d2 : (k:Int) < na := by have := l1.out; omega
      have d3 : (0:Int) ≤ (k:Int) + 1 := by omega
      have d4 : (k:Int) + 1 < na := by have := l1.out; omega
      have G1 : Hid (∀ W, Ext w W → W.cell? (adr pa k) = some (.int .i64 a) ∧ W.cell? (adr pa (k + 1)) = some (.int .i64 c)) := fun W h => by
        have h1 := (HA.out.ext h).cI (k := k) (by omega)
        have h2 := (HA.out.ext h).cI (k := k + 1) (by omega)
        rw [ha] at h1; rw [hc] at h2; exact ⟨h1, h2⟩
      have HRL := Lib.hid hrl
      have RL := Lib.hid RL0
      clear hA hB hAB hck HOK hof hwd ho ha hc v1 v2 hk1 q3 hrl RL0 hlen HA
      rw [HRL.out]
      go_enter Try.func78, Try.ntmps78
      go_wp2_with (first | (go_at_call 101; go_must (refine (HW.out _).mono ?_; rintro e w2 ⟨rfl, rfl⟩; obtain ⟨g1, g2⟩ := G1.out _ (S1.out.junk (.cells #[.int .i64 k] 3)).ext)) | (go_at_call 41; go_must (refine (HC.out _ S0.out.ext).mono ?_; rintro e w1 ⟨rfl, hb⟩; have S1 := Lib.hid (S0.out.call hb); clear hb)))
      obtain ⟨X, hX⟩ : ∃ X, X = w1.alloc (.cells #[.int .i64 (k:Int)] 3) := ⟨_, rfl⟩
      have SX := Lib.hid (hX ▸ (S1.out.junk (.cells #[.int .i64 (k:Int)] 3)) : Sep w X _)
      rw [← hX] at g1 g2 ⊢
      have x1 := fun x : ExtOf X => x.ext.cell g1
      have x2 := fun x : ExtOf X => x.ext.cell g2
      refine wp_region_mix [true, true, true, true, true, true, true, true, true, true, true, false] (fun _ u W => ∃ q d, u = .slice q (c - a) d ∧ W.ownsRow X.heap.size 3 1 (.slice q (c - a) d) (c - a) (encI (rowL A B k))) (by kernel_rfl) (by kernel_rfl) (by kernel_rfl) (fun _ _ _ _ hE ⟨p, d, h1, h2⟩ => ⟨p, d, h1, hE.own h2⟩) ?_
      simp only [nfM]
      repeat (go_big_quiet_step ((fail)))
      refine wpQuiet_nil ⟨⟨fun vs W hE hd => ?_, trivial⟩, fun vs W hE hkn => ?_⟩
      · simp [putM, go_sem]
        exact (CloneI _ (c - a) _ (rowL A B k) W (RL.out.ext (Ext.trans SX.out.ext hE)) HLEN.out).mono fun e w' ⟨q, d, h1, S⟩ => ⟨_, h1, ⟨q, d, rfl, own_base (S.own 0 rfl) hE.size⟩, S.ext⟩
      · obtain ⟨⟨q, d, hv, hown⟩, _⟩ := hkn
        have S5 := Lib.hid (SX.out.fresh hE hown (Nat.le_refl _))
        simp only [putM, hv, List.length_cons, List.length_nil, Nat.zero_add, Nat.reduceAdd, List.drop_succ_cons, List.drop_zero]
        clear x1 x2 g1 g2 hv hown hE hX
        go_wp2
        go_ret2
        exact ⟨q, d, rfl, S5.out.pick [0] (by decide) rfl⟩
theorem OutG (po : Option Addr) (no co : Nat) (O : List Int) (pt : Option Addr) (nt ct : Nat) (T : List Int) (pr : Option Addr) (nr cr : Nat) (R : List Int) (pv : Option Addr) (nv cv : Nat) (V : List Int) (w : World) (v : Int) (hO : Rd w 1 po no (encI O)) (hT : Rd w 1 pt nt (encI T)) (hR : Rd w 1 pr nr (encI R)) (hV : Rd w 1 pv nv (encI V)) (hct : nt ≤ ct) (hcv : nv ≤ cv) : Calls Try.prog 42 #[.agg #[.slice po no co, .slice pt nt ct, .slice pr nr cr, .slice pv nv cv], .int .i64 v] w fun e w' => ∃ q c, e = .returned (.tuple #[.slice q (outL (checkR O T R V) O T v).length c, .bool (outB (checkR O T R V) O v)]) ∧ Sep w w' [.own 3 1 q (outL (checkR O T R V) O T v).length c (encI (outL (checkR O T R V) O T v))] := by
  have S0 := Lib.hid ((Sep.start w).al #[.slice po no co, .slice pt nt ct, .slice pr nr cr, .slice pv nv cv] 52 w.heap.size rfl)
  have HR := Lib.hid (fun W1 (h : Ext w W1) => rowG po no co O pt nt ct T pr nr cr R pv nv cv V W1 po no co O pt nt ct T v (hO.ext h) (hT.ext h) (hR.ext h) (hV.ext h) hct hcv (hO.ext h) (hT.ext h) hct (fun h => halfB_off (checkR_half h).2.2.1))
  clear hO hT hR hV
  go_enter Try.func42, Try.ntmps42
  go_wp2_with (go_at_call 78; go_must (refine (HR.out _ S0.out.ext).mono ?_; rintro e w1 ⟨q, c, rfl, T⟩; have S1 := Lib.hid (S0.out.comp T); clear T))
  go_ret2
  exact ⟨q, c, rfl, S1.out.pick [0] (by decide) rfl⟩
theorem InG (po : Option Addr) (no co : Nat) (O : List Int) (pt : Option Addr) (nt ct : Nat) (T : List Int) (pr : Option Addr) (nr cr : Nat) (R : List Int) (pv : Option Addr) (nv cv : Nat) (V : List Int) (w : World) (v : Int) (hO : Rd w 1 po no (encI O)) (hT : Rd w 1 pt nt (encI T)) (hR : Rd w 1 pr nr (encI R)) (hV : Rd w 1 pv nv (encI V)) (hct : nt ≤ ct) (hcv : nv ≤ cv) : Calls Try.prog 43 #[.agg #[.slice po no co, .slice pt nt ct, .slice pr nr cr, .slice pv nv cv], .int .i64 v] w fun e w' => ∃ q c, e = .returned (.tuple #[.slice q (outL (checkR O T R V) R V v).length c, .bool (outB (checkR O T R V) R v)]) ∧ Sep w w' [.own 3 1 q (outL (checkR O T R V) R V v).length c (encI (outL (checkR O T R V) R V v))] := by
  have S0 := Lib.hid ((Sep.start w).al #[.slice po no co, .slice pt nt ct, .slice pr nr cr, .slice pv nv cv] 52 w.heap.size rfl)
  have HR := Lib.hid (fun W1 (h : Ext w W1) => rowG po no co O pt nt ct T pr nr cr R pv nv cv V W1 pr nr cr R pv nv cv V v (hO.ext h) (hT.ext h) (hR.ext h) (hV.ext h) hct hcv (hR.ext h) (hV.ext h) hcv (fun h => halfB_off (checkR_half h).2.2.2))
  clear hO hT hR hV
  go_enter Try.func43, Try.ntmps43
  go_wp2_with (go_at_call 78; go_must (refine (HR.out _ S0.out.ext).mono ?_; rintro e w1 ⟨q, c, rfl, T⟩; have S1 := Lib.hid (S0.out.comp T); clear T))
  go_ret2
  exact ⟨q, c, rfl, S1.out.pick [0] (by decide) rfl⟩
/-- is there an edge? -/
def hasB (b : Bool) (A B : List Int) (v u : Int) : Bool := outB b A v && inB (outL b A B v) u
theorem outL_len {O T R V A B : List Int} {v : Int} (hB : B.length ≤ 9223372036854775807) : (outL (checkR O T R V) A B v).length ≤ 9223372036854775807 := by
  unfold outL
  split
  · unfold rowL; rw [List.length_take, List.length_drop]; omega
  · simp
theorem HasG (po : Option Addr) (no co : Nat) (O : List Int) (pt : Option Addr) (nt ct : Nat) (T : List Int) (pr : Option Addr) (nr cr : Nat) (R : List Int) (pv : Option Addr) (nv cv : Nat) (V : List Int) (w : World) (v u : Int) (hO : Rd w 1 po no (encI O)) (hT : Rd w 1 pt nt (encI T)) (hR : Rd w 1 pr nr (encI R)) (hV : Rd w 1 pv nv (encI V)) (hct : nt ≤ ct) (hcv : nv ≤ cv) : Calls Try.prog 44 #[.agg #[.slice po no co, .slice pt nt ct, .slice pr nr cr, .slice pv nv cv], .int .i64 v, .int .i64 u] w fun e w' => e = .returned (.bool (hasB (checkR O T R V) O T v u)) ∧ Ext w w' := by
  have S0 := Lib.hid ((Sep.start w).al #[.slice po no co, .slice pt nt ct, .slice pr nr cr, .slice pv nv cv] 52 w.heap.size rfl)
  have HR := Lib.hid (fun W1 (h : Ext w W1) => OutG po no co O pt nt ct T pr nr cr R pv nv cv V W1 v (hO.ext h) (hT.ext h) (hR.ext h) (hV.ext h) hct hcv)
  have HL := Lib.hid (outL_len (O := O) (T := T) (R := R) (V := V) (A := O) (v := v) (B := T) (by rw [← hT.nI]; exact hT.small))
  have HB : Hid (hasB (checkR O T R V) O T v u = (outB (checkR O T R V) O v && inB (outL (checkR O T R V) O T v) u)) := rfl
  clear hO hT hR hV
  generalize outL (checkR O T R V) O T v = L at *
  cases ho : outB (checkR O T R V) O v with
  | true =>
    rw [ho] at HR HB
    clear ho
    rw [HB.out]
    go_enter Try.func44, Try.ntmps44
    go_wp2_with (first
      | (go_at_call 79; go_must (refine (ContI _ _ _ L u _ (S1.out.rd 0 rfl HL.out)).mono ?_; rintro e w2 ⟨rfl, hb⟩; have S2 := Lib.hid (S1.out.call hb); clear hb))
      | (go_at_call 42; go_must (refine (HR.out _ S0.out.ext).mono ?_; rintro e w1 ⟨q, c, rfl, T⟩; have S1 := Lib.hid (S0.out.comp T); clear T)))
    go_ret
    exact ⟨rfl, S2.out.ext⟩
  | false =>
    rw [ho] at HR HB
    clear ho
    rw [HB.out]
    go_enter Try.func44, Try.ntmps44
    go_wp2_with (go_at_call 42; go_must (refine (HR.out _ S0.out.ext).mono ?_; rintro e w1 ⟨q, c, rfl, T⟩; have S1 := Lib.hid (S0.out.comp T); clear T))
    go_ret
    exact ⟨rfl, S1.out.ext⟩
end Go.Proofs.Ytcjkechemjdboaa
/- Equal rows, equal edges, rows too big, a row that rises and has a number. -/
namespace Go.Proofs.Ytcjkechemjdboaa
open Go Go.RowKit Go.Shelf Go.Lib
attribute [local go_sem ↓] eqEdge neqEdge guardEdge
theorem IntsY (p q : Option Addr) (n m c d : Nat) (A : List Int) (w : World) (h1 : Rd w 1 p n (encI A)) (h2 : Rd w 1 q m (encI A)) : Calls Try.prog 24 #[.slice p n c, .slice q m d] w fun e w' => e = .returned (.bool true) ∧ Ext w w' :=
  (Ints01 p q n m c d A A w h1 h2).mono fun e w' ⟨h3, h4⟩ => ⟨by rw [h3]; simp, h4⟩
set_option maxRecDepth 100000 in
set_option maxHeartbeats 2000000 in
theorem Same04T (po : Option Addr) (no co : Nat) (O : List Int) (pt : Option Addr) (nt ct : Nat) (T : List Int) (pr : Option Addr) (nr cr : Nat) (R : List Int) (pv : Option Addr) (nv cv : Nat) (V : List Int) (po' : Option Addr) (no' co' : Nat) (pt' : Option Addr) (nt' ct' : Nat) (pr' : Option Addr) (nr' cr' : Nat) (pv' : Option Addr) (nv' cv' : Nat) (w : World) (hO : Rd w 1 po no (encI O)) (hT : Rd w 1 pt nt (encI T)) (hR : Rd w 1 pr nr (encI R)) (hV : Rd w 1 pv nv (encI V))
    (hO' : Rd w 1 po' no' (encI O)) (hT' : Rd w 1 pt' nt' (encI T)) (hR' : Rd w 1 pr' nr' (encI R)) (hV' : Rd w 1 pv' nv' (encI V)) :
    Calls Try.prog 39 #[.agg #[.slice po no co, .slice pt nt ct, .slice pr nr cr, .slice pv nv cv], .agg #[.slice po' no' co', .slice pt' nt' ct', .slice pr' nr' cr', .slice pv' nv' cv']] w fun e w' => e = .returned (.bool true) ∧ Ext w w' := by
  have H1 := Lib.hid (fun W1 (h : Ext w W1) => IntsY po po' no no' co co' O W1 (hO.ext h) (hO'.ext h))
  have H2 := Lib.hid (fun W1 (h : Ext w W1) => IntsY pt pt' nt nt' ct ct' T W1 (hT.ext h) (hT'.ext h))
  have H3 := Lib.hid (fun W1 (h : Ext w W1) => IntsY pr pr' nr nr' cr cr' R W1 (hR.ext h) (hR'.ext h))
  have H4 := Lib.hid (fun W1 (h : Ext w W1) => IntsY pv pv' nv nv' cv cv' V W1 (hV.ext h) (hV'.ext h))
  have S0 := Lib.hid (((Sep.start w).al #[.slice po no co, .slice pt nt ct, .slice pr nr cr, .slice pv nv cv] 52 w.heap.size rfl).al #[.slice po' no' co', .slice pt' nt' ct', .slice pr' nr' cr', .slice pv' nv' cv'] 52 (w.heap.size + 1) (by simp))
  clear hO hT hR hV hO' hT' hR' hV'
  go_enter Try.func39, Try.ntmps39
  go_wp2_with (first | (go_at_call 24; have _t := S3; go_must (refine (H4.out _ S3.out.ext).mono ?_; rintro e w4 ⟨rfl, hb⟩; have S4 := Lib.hid (S3.out.call hb); have w4a0 := (S4.out.blk 1 rfl).cell 0; have w4a1 := (S4.out.blk 1 rfl).cell 1; have w4a2 := (S4.out.blk 1 rfl).cell 2; have w4a3 := (S4.out.blk 1 rfl).cell 3; have w4az := (S4.out.blk 1 rfl).lt; have w4b0 := (S4.out.blk 0 rfl).cell 0; have w4b1 := (S4.out.blk 0 rfl).cell 1; have w4b2 := (S4.out.blk 0 rfl).cell 2; have w4b3 := (S4.out.blk 0 rfl).cell 3; have w4bz := (S4.out.blk 0 rfl).lt; clear hb)) | (go_at_call 24; have _t := S2; go_must (refine (H3.out _ S2.out.ext).mono ?_; rintro e w3 ⟨rfl, hb⟩; have S3 := Lib.hid (S2.out.call hb); have w3a0 := (S3.out.blk 1 rfl).cell 0; have w3a1 := (S3.out.blk 1 rfl).cell 1; have w3a2 := (S3.out.blk 1 rfl).cell 2; have w3a3 := (S3.out.blk 1 rfl).cell 3; have w3az := (S3.out.blk 1 rfl).lt; have w3b0 := (S3.out.blk 0 rfl).cell 0; have w3b1 := (S3.out.blk 0 rfl).cell 1; have w3b2 := (S3.out.blk 0 rfl).cell 2; have w3b3 := (S3.out.blk 0 rfl).cell 3; have w3bz := (S3.out.blk 0 rfl).lt; clear hb)) | (go_at_call 24; have _t := S1; go_must (refine (H2.out _ S1.out.ext).mono ?_; rintro e w2 ⟨rfl, hb⟩; have S2 := Lib.hid (S1.out.call hb); have w2a0 := (S2.out.blk 1 rfl).cell 0; have w2a1 := (S2.out.blk 1 rfl).cell 1; have w2a2 := (S2.out.blk 1 rfl).cell 2; have w2a3 := (S2.out.blk 1 rfl).cell 3; have w2az := (S2.out.blk 1 rfl).lt; have w2b0 := (S2.out.blk 0 rfl).cell 0; have w2b1 := (S2.out.blk 0 rfl).cell 1; have w2b2 := (S2.out.blk 0 rfl).cell 2; have w2b3 := (S2.out.blk 0 rfl).cell 3; have w2bz := (S2.out.blk 0 rfl).lt; clear hb)) | (go_at_call 24; have _t := S0; go_must (refine (H1.out _ S0.out.ext).mono ?_; rintro e w1 ⟨rfl, hb⟩; have S1 := Lib.hid (S0.out.call hb); have w1a0 := (S1.out.blk 1 rfl).cell 0; have w1a1 := (S1.out.blk 1 rfl).cell 1; have w1a2 := (S1.out.blk 1 rfl).cell 2; have w1a3 := (S1.out.blk 1 rfl).cell 3; have w1az := (S1.out.blk 1 rfl).lt; have w1b0 := (S1.out.blk 0 rfl).cell 0; have w1b1 := (S1.out.blk 0 rfl).cell 1; have w1b2 := (S1.out.blk 0 rfl).cell 2; have w1b3 := (S1.out.blk 0 rfl).cell 3; have w1bz := (S1.out.blk 0 rfl).lt; clear hb)))
  go_ret
  exact ⟨rfl, S4.out.ext⟩
theorem SameEdgesT (p q : Option Addr) (n c d : Nat) (E : List (Int × Int)) (w : World) (h1 : Rd w 2 p n (encE E)) (h2 : Rd w 2 q n (encE E)) :
    Calls Try.prog 53 #[.slice p n c, .slice q n d] w fun e w' => e = .returned (.bool true) ∧ Ext w w' := by
  have p1 := h1.ptr
  have p2 := h2.ptr
  have n1 := h1.small
  have H1 := Lib.hid h1; clear h1
  have H2 := Lib.hid h2; clear h2
  go_enter Try.func53, Try.ntmps53
  go_wp2
  go_loopw [5] (fun i wr => ∃ k : Nat, k ≤ n ∧ i = .int .i64 k ∧ Ext w wr) (fun i _ => n - (intOf i).toNat)
  case atStart => exact ⟨0, Nat.zero_le _, rfl, Below.refl _ _⟩
  case round =>
    obtain ⟨k, hk, rfl, hE⟩ := hrel
    by_cases hlt : k < n
    · have g1 := hE.cell (H1.out.cE hlt)
      have g2 := hE.cell (H1.out.cE2 hlt)
      have g3 := hE.cell (H2.out.cE hlt)
      have g4 := hE.cell (H2.out.cE2 hlt)
      have d1 : (0:Int) ≤ k := by omega
      have d2 : (k:Int) < n := by omega
      have hq : eqE ((nth E k).1, (nth E k).2) ((nth E k).1, (nth E k).2) = true := by simp [eqE]
      have HE := Lib.hid hE; clear hE
      go_wp2
      go_quiet (fail)
      go_wp2
      go_roundw
      case rel => exact ⟨k + 1, by omega, by go_num, HE.out.drewN _⟩
      case measure => simp [intOf]; omega
    · have HE := Lib.hid hE; clear hE
      go_wp2
      go_ret
      exact ⟨rfl, HE.out⟩
/-- rows more than are looked at -/
def bigR (O T R V : List Int) : Bool := decide (30 < O.length) && decide (O.length ≤ 201) || decide (250 < O.length) || decide (250 < R.length) || decide (150 < T.length) && decide (T.length ≤ 2000) || decide (2100 < T.length) || decide (2100 < V.length)
set_option maxHeartbeats 2000000 in
theorem Big04 (po : Option Addr) (no co : Nat) (O : List Int) (pt : Option Addr) (nt ct : Nat) (T : List Int) (pr : Option Addr) (nr cr : Nat) (R : List Int) (pv : Option Addr) (nv cv : Nat) (V : List Int) (w : World) (hO : Rd w 1 po no (encI O)) (hT : Rd w 1 pt nt (encI T)) (hR : Rd w 1 pr nr (encI R)) (hV : Rd w 1 pv nv (encI V)) : Calls Try.prog 40 #[.agg #[.slice po no co, .slice pt nt ct, .slice pr nr cr, .slice pv nv cv]] w fun e w' => e = .returned (.bool (bigR O T R V)) ∧ Ext w w' := by
  have hd : bigR O T R V = (decide (30 < no) && decide (no ≤ 201) || decide (250 < no) || decide (250 < nr) || decide (150 < nt) && decide (nt ≤ 2000) || decide (2100 < nt) || decide (2100 < nv)) := by
    unfold bigR; rw [hO.nI, hT.nI, hR.nI, hV.nI]
  rw [hd]
  clear hd hO hT hR hV
  go_enter Try.func40, Try.ntmps40
  go_wp2
  all_goals (go_ret; refine ⟨ret_bool ?_, Ext.alloc (Below.refl _ _) _⟩; rw [Bool.eq_iff_iff]; simp only [Bool.or_eq_true, Bool.and_eq_true, decide_eq_true_eq, true_iff]; omega)
end Go.Proofs.Ytcjkechemjdboaa
/- Rows of a graph: laid in one sweep, or place by place. No program in sight. -/
namespace Go.Proofs.Ytcjkechemjdboaa
open Go Go.RowKit
/-- offsets: how many edges come ahead of a place -/
def offL (n : Nat) (E : List (Int × Int)) : List Int := (List.range (n + 1)).map fun (j : Nat) => ((E.countP fun x => decide (x.1 < (j:Int))) : Int)
def toL (E : List (Int × Int)) : List Int := E.map (·.2)
theorem offL_len (n : Nat) (E : List (Int × Int)) : (offL n E).length = n + 1 := by simp [offL]
theorem offL_nth {n j : Nat} (E : List (Int × Int)) (h : j < n + 1) : nth (offL n E) j = ((E.countP fun x => decide (x.1 < (j:Int))) : Int) := by
  rw [nth_eq (by rw [offL_len]; exact h)]
  simp [offL]
/-- counts, when k edges are over -/
def cntL (n : Nat) (E : List (Int × Int)) : List Int := (List.range (n + 1)).map fun (j : Nat) => ((E.countP fun x => decide (x.1 + 1 = (j:Int))) : Int)
theorem cntL_len (n : Nat) (E : List (Int × Int)) : (cntL n E).length = n + 1 := by simp [cntL]
theorem cntL_nth {n j : Nat} (E : List (Int × Int)) (h : j < n + 1) : nth (cntL n E) j = ((E.countP fun x => decide (x.1 + 1 = (j:Int))) : Int) := by
  rw [nth_eq (by rw [cntL_len]; exact h)]
  simp [cntL]
theorem cntL_step {n : Nat} (E : List (Int × Int)) (x : Int × Int) {k : Nat} (hk : x.1 = (k:Int)) (hn : k < n) : cntL n (E ++ [x]) = (cntL n E).set (k + 1) (nth (cntL n E) (k + 1) + 1) := by
  apply List.ext_getElem
  · simp [cntL]
  · intro i h1 h2
    rw [List.getElem_set]
    by_cases e : k + 1 = i
    · subst e
      rw [if_pos rfl, cntL_nth E (by omega)]
      simp [cntL, List.countP_append, hk]
    · rw [if_neg e]
      have : ¬ ((k:Int) + 1 = (i:Int)) := by omega
      simp [cntL, List.countP_append, hk, this]
/-- sums, when v places are over -/
def sumL (n : Nat) (E : List (Int × Int)) (v : Nat) : List Int := (List.range (n + 1)).map fun (j : Nat) => if j ≤ v then ((E.countP fun x => decide (x.1 < (j:Int))) : Int) else ((E.countP fun x => decide (x.1 + 1 = (j:Int))) : Int)
theorem sumL_len (n : Nat) (E : List (Int × Int)) (v : Nat) : (sumL n E v).length = n + 1 := by simp [sumL]
theorem sumL_nth {n j v : Nat} (E : List (Int × Int)) (h : j < n + 1) : nth (sumL n E v) j = if j ≤ v then ((E.countP fun x => decide (x.1 < (j:Int))) : Int) else ((E.countP fun x => decide (x.1 + 1 = (j:Int))) : Int) := by
  rw [nth_eq (by rw [sumL_len]; exact h)]
  simp [sumL]
theorem sumL_zero {n : Nat} {E : List (Int × Int)} (h : ∀ x ∈ E, 0 ≤ x.1) : sumL n E 0 = cntL n E := by
  apply List.ext_getElem
  · simp [sumL, cntL]
  · intro i h1 h2
    simp only [sumL, cntL, List.getElem_map, List.getElem_range]
    by_cases e : i ≤ 0
    · obtain rfl : i = 0 := by omega
      rw [if_pos e]
      rw [List.countP_eq_zero.2 fun x hx => by have := h x hx; simp; omega, List.countP_eq_zero.2 fun x hx => by have := h x hx; simp; omega]
    · rw [if_neg e]
theorem sumL_end (n : Nat) (E : List (Int × Int)) : sumL n E n = offL n E := by
  apply List.ext_getElem
  · simp [sumL, offL]
  · intro i h1 h2
    simp only [sumL, offL, List.getElem_map, List.getElem_range]
    rw [if_pos (by simp [sumL] at h1; omega)]
theorem count_step (E : List (Int × Int)) (v : Nat) : (E.countP fun x => decide (x.1 < ((v + 1 : Nat):Int))) = (E.countP fun x => decide (x.1 + 1 = ((v + 1 : Nat):Int))) + E.countP fun x => decide (x.1 < (v:Int)) := by
  induction E with
  | nil => rfl
  | cons x E ih =>
    simp only [List.countP_cons]
    rw [ih]
    by_cases h1 : x.1 < (v:Int)
    · have h2 : x.1 < ((v + 1 : Nat) : Int) := by omega
      have h3 : ¬ (x.1 + 1 = ((v + 1 : Nat):Int)) := by omega
      simp only [h1, h2, h3, decide_true, decide_false, if_true, Bool.false_eq_true, if_false]; omega
    · by_cases h2 : x.1 + 1 = ((v + 1 : Nat) : Int)
      · have h3 : x.1 < ((v + 1 : Nat) : Int) := by omega
        simp only [h1, h2, h3, decide_true, decide_false, if_true, Bool.false_eq_true, if_false]; omega
      · have h3 : ¬ x.1 < ((v + 1 : Nat) : Int) := by omega
        simp only [h1, h2, h3, decide_false, Bool.false_eq_true, if_false]; omega
theorem sumL_step {n : Nat} (E : List (Int × Int)) {v : Nat} (hv : v < n) : sumL n E (v + 1) = (sumL n E v).set (v + 1) (nth (sumL n E v) (v + 1) + nth (sumL n E v) v) := by
  apply List.ext_getElem
  · simp [sumL]
  · intro i h1 h2
    rw [List.getElem_set]
    by_cases e : v + 1 = i
    · subst e
      rw [if_pos rfl, sumL_nth E (by omega), sumL_nth E (by omega), if_neg (by omega), if_pos (Nat.le_refl _)]
      simp only [sumL, List.getElem_map, List.getElem_range]
      rw [if_pos (Nat.le_refl _), count_step]
      omega
    · rw [if_neg e]
      simp only [sumL, List.getElem_map, List.getElem_range]
      by_cases e2 : i ≤ v
      · rw [if_pos e2, if_pos (by omega)]
      · rw [if_neg e2, if_neg (by omega)]
/-! ### place by place -/
def placeE (E : List (Int × Int)) (v : Nat) : List (Int × Int) := E.filter fun x => decide (x.1 = (v:Int))
def placesK (E : List (Int × Int)) (k : Nat) : List (Int × Int) := (List.range k).flatMap (placeE E)
theorem placesK_step (E : List (Int × Int)) (k : Nat) : placesK E (k + 1) = placesK E k ++ placeE E k := by
  unfold placesK; rw [List.range_succ, List.flatMap_append]; simp
theorem placesK_mem {E : List (Int × Int)} {k : Nat} {x : Int × Int} : x ∈ placesK E k ↔ x ∈ E ∧ ∃ v : Nat, v < k ∧ x.1 = (v:Int) := by
  unfold placesK placeE
  simp only [List.mem_flatMap, List.mem_range, List.mem_filter, decide_eq_true_eq]
  constructor
  · rintro ⟨v, h1, h2, h3⟩; exact ⟨h2, v, h1, h3⟩
  · rintro ⟨h1, v, h2, h3⟩; exact ⟨v, h2, h1, h3⟩
theorem placesK_len (E : List (Int × Int)) (h : ∀ x ∈ E, 0 ≤ x.1) : ∀ k : Nat, (placesK E k).length = E.countP fun x => decide (x.1 < (k:Int))
  | 0 => by
    rw [List.countP_eq_zero.2 fun x hx => by have := h x hx; simp; omega]; rfl
  | k + 1 => by
    rw [placesK_step, List.length_append, placesK_len E h k, count_step]
    have : (placeE E k).length = E.countP fun x => decide (x.1 + 1 = ((k + 1 : Nat):Int)) := by
      unfold placeE
      rw [List.countP_eq_length_filter]
      congr 1
      apply List.filter_congr
      intro x _
      rw [decide_eq_decide]; omega
    omega
theorem lessE_iff {a b : Int × Int} : lessE a b = true ↔ a.1 < b.1 ∨ a.1 = b.1 ∧ a.2 < b.2 := by unfold lessE; simp
theorem placesK_rises {E : List (Int × Int)} (h : Rises lessE E) : ∀ k, Rises lessE (placesK E k)
  | 0 => List.Pairwise.nil
  | k + 1 => by
    rw [placesK_step]
    refine List.pairwise_append.2 ⟨placesK_rises h k, h.sublist List.filter_sublist, fun a ha b hb => ?_⟩
    obtain ⟨_, v, h1, h2⟩ := placesK_mem.1 ha
    unfold placeE at hb
    rw [List.mem_filter, decide_eq_true_eq] at hb
    rw [lessE_iff]; omega
theorem places_all {E : List (Int × Int)} (h : Rises lessE E) {k : Nat} (hb : ∀ x ∈ E, 0 ≤ x.1 ∧ x.1 < k) : placesK E k = E :=
  rises_uniq stoE _ _ (placesK_rises h k) h fun x => by
    rw [placesK_mem]
    exact ⟨fun h => h.1, fun hx => ⟨hx, x.1.toNat, by have := hb x hx; omega, by have := hb x hx; omega⟩⟩
/-- the same, turned -/
theorem placeE_turn {E : List (Int × Int)} (h : Rises lessE E) (v : Nat) : placeE (putAll lessE (E.map swapE)) v = (E.filter fun x => decide (x.2 = (v:Int))).map swapE := by
  refine rises_uniq stoE _ _ ((putAll_rises stoE _).sublist List.filter_sublist) ?_ fun x => ?_
  · rw [Rises, List.pairwise_map]
    refine (h.sublist List.filter_sublist).imp_of_mem fun {a b} ha hb hab => ?_
    rw [List.mem_filter, decide_eq_true_eq] at ha hb
    rw [lessE_iff] at hab ⊢
    unfold swapE
    simp only
    omega
  · unfold placeE
    rw [List.mem_filter, putAll_mem stoE, List.mem_map, List.mem_map]
    simp only [List.mem_filter, decide_eq_true_eq]
    constructor
    · rintro ⟨⟨y, h1, rfl⟩, h2⟩; exact ⟨y, ⟨h1, h2⟩, rfl⟩
    · rintro ⟨y, ⟨h1, h2⟩, rfl⟩; exact ⟨⟨y, h1, rfl⟩, h2⟩
end Go.Proofs.Ytcjkechemjdboaa
/- The program's rows of a graph: laid. -/
namespace Go.Proofs.Ytcjkechemjdboaa
open Go Go.RowKit Go.Shelf Go.Lib
theorem encI_set (l : List Int) (k : Nat) (x : Int) : (encI l).set k (.int .i64 x) = encI (l.set k x) := by simp [encI, List.map_set]
theorem made_encI (n : Nat) : (madeCells (Value.int .i64 0).cells (n * 1)).toList = encI (List.replicate n 0) := by
  apply List.ext_getElem
  · simp [madeCells, encI]
  · intro i h1 h2
    simp [madeCells, encI, Value.cells, Nat.mod_one]
theorem cntL_nil (n : Nat) : cntL n [] = List.replicate (n + 1) 0 := by
  apply List.ext_getElem
  · simp [cntL]
  · intro i h1 h2
    simp [cntL]
theorem Rd.oneIat (w : World) (t : TypeId) (a : Int) (b : Nat) (h : w.heap.size = b) : Rd (w.alloc (.cells #[.int .i64 a] t)) 1 (some ⟨b, 0, none⟩) 1 (encI [a]) := by subst h; exact Rd.oneI w t a
/-- 'make' of a row, as a piece -/
theorem wpList_make_sep {P : Program} {w0 w : World} {Γ : List Pc} {ops : Array Oper} {rest : List Oper} {o : Oper} {a : Act} {Q : Exit → Act → World → Prop}
    (hg : o.guard = none) (l c : Operand) (t : TypeId) (hop : o.op = Op.makeSlice t l c)
    (e : TypeId) (i : TypeInfo) (z : Value) (size : Nat) (h1 : P.underlying t = some (.slice e)) (h2 : P.info? e = some i) (h3 : i.zero = some z) (h4 : i.size = size)
    (L : Int) (n : Nat) (hl : a.eval l = .int .i64 L) (hc : a.eval c = .int .i64 L) (hL : L = (n : Int)) (b2 : i.bytes * n ≤ 281474976710656) (b3 : n ≤ maxLen) (S : Sep w0 w Γ)
    (hK : ∀ w', Sep w0 w' (.own e size (some ⟨w.heap.size, 0, none⟩) n n (madeCells z.cells (n * size)).toList :: Γ) → wpList P ops Q rest (a.put o.dst (.slice (some ⟨w.heap.size, 0, none⟩) n n)) w') :
    wpList P ops Q (o :: rest) a w :=
  wpList_make_full w hg l c t hop w.heap.size e i z size h1 h2 h3 h4 .i64 .i64 L L n hl hc hL hL b2 b3 (Nat.le_refl _) fun w' ho hgr =>
    hK w' (S.fresh ⟨hgr.os, hgr.tape, hgr.output, hgr.size, fun k hk => hgr.block k hk (by simp)⟩ ho (Nat.le_refl _))
set_option maxRecDepth 100000 in
set_option maxHeartbeats 4000000 in
theorem laidG (n : Nat) (p : Option Addr) (m c : Nat) (E : List (Int × Int)) (w : World) (hE : Rd w 2 p m (encE E)) (hn : n ≤ 200) (hm : m ≤ 2000) (hb : ∀ x ∈ E, 0 ≤ x.1 ∧ x.1 < n) :
    Calls Try.prog 74 #[.int .i64 n, .slice p m c] w fun e w' => ∃ qo co qt ct, e = .returned (.tuple #[.slice qo (n + 1) co, .slice qt m ct]) ∧ Sep w w' [.own 3 1 qt m ct (encI (toL E)), .own 3 1 qo (n + 1) co (encI (offL n E))] := by
  obtain ⟨i0, hi0, hz0, hz1, hz2⟩ := info_parts infI
  have p1 := hE.ptr
  have L1 := Lib.hid hE.nE
  have HB := Lib.hid hb
  clear hb
  have HE := Lib.hid hE; clear hE
  go_enter Try.func74, Try.ntmps74
  go_wp2_with (at_make; go_must (refine wpList_make_sep rfl _ _ _ rfl 3 i0 _ 1 Try.underlying38 hi0 hz0 hz1 ((n:Int) + 1) (n + 1) rfl rfl (by omega) (by rw [hz2]; omega) (by unfold maxLen; omega) (Sep.start w) ?_; intro w1 S'; rw [made_encI, ← cntL_nil] at S'; have S1 := Lib.hid S'; clear S'))
  generalize hqo : (some ⟨w.heap.size, 0, none⟩ : Option Addr) = qo at *
  clear hqo
  go_loopw [5, 7, 14] (fun t _ i wr => ∃ (k : Nat) (q : Option Addr) (d : Nat), k ≤ m ∧ i = .int .i64 k ∧ t = .slice q k d ∧ Sep w wr [.own 3 1 q k d (encI (toL (E.take k))), .own 3 1 qo (n + 1) (n + 1) (encI (cntL n (E.take k)))]) (fun _ _ i _ => m - (intOf i).toNat)
  case atStart => exact ⟨0, none, 0, Nat.zero_le _, rfl, rfl, S1.out.nilrow _ _⟩
  case round =>
    clear S1
    obtain ⟨k, q, d, hk, rfl, rfl, S⟩ := hrel
    by_cases hlt : k < m
    · have hkE : k < E.length := by rw [← L1.out]; exact hlt
      have e1 := S.ext.cell (HE.out.cE hlt)
      have e2 := S.ext.cell (HE.out.cE2 hlt)
      obtain ⟨b1, b2⟩ := HB.out _ (nth_mem hkE)
      obtain ⟨f, hf⟩ : ∃ f : Nat, (nth E k).1 = (f : Int) := ⟨(nth E k).1.toNat, by omega⟩
      have HT : Hid (toL (E.take (k + 1)) = toL (E.take k) ++ [(nth E k).2]) := by unfold Hid toL; rw [map_take_succ _ E k hkE]
      have HC : Hid (cntL n (E.take (k + 1)) = (cntL n (E.take k)).set (f + 1) (nth (cntL n (E.take k)) (f + 1) + 1)) := by
        unfold Hid; rw [take_succ_nth E k hkE]; exact cntL_step _ _ hf (by omega)
      rw [hf] at e1 b1 b2
      have c1 := (S.rd 1 rfl (by omega)).cI (k := f + 1) (by omega)
      have po := (S.rd 1 rfl (by omega)).ptr
      have fz := own_frozen (S.own 1 rfl) (by omega) (f + 1)
      have zz : (adr qo (f + 1)).block < wr.heap.size := (S.blt 1 rfl (by omega)).2
      have y0 : adr qo (f + 1) ≠ ⟨wr.heap.size, 1, none⟩ := fun e => by
        have e2 : (adr qo (f + 1)).block = wr.heap.size := by rw [e]
        omega
      have y1 : (⟨wr.heap.size, 1, none⟩ : Addr) ≠ adr qo (f + 1) := fun e => y0 e.symm
      have d1 : (0:Int) ≤ k := by omega
      have d2 : (k:Int) < m := by omega
      have d3 : (0:Int) ≤ (f:Int) + 1 := by omega
      have d4 : (f:Int) + 1 < ((n + 1 : Nat) : Int) := by omega
      have hcb : nth (cntL n (E.take k)) (f + 1) ≤ 2000 ∧ 0 ≤ nth (cntL n (E.take k)) (f + 1) := by
        rw [cntL_nth _ (by omega)]
        have h1 := List.countP_le_length (p := fun x : Int × Int => decide (x.1 + 1 = ((f + 1 : Nat):Int))) (l := E.take k)
        rw [List.length_take] at h1
        omega
      obtain ⟨u, hu⟩ : ∃ u, nth (cntL n (E.take k)) (f + 1) = u := ⟨_, rfl⟩
      rw [hu] at c1 hcb HC
      have SH := Lib.hid S; clear S
      clear hf hu hkE
      have SX := Lib.hid ((SH.out.junk (.cells #[.int .i64 (f:Int), .int .i64 (nth E k).2] 71)).setRow 1 rfl (f + 1) (by omega) (.int .i64 (u + 1)))
      go_wp2_with (at_builtin; go_must (refine wpList_append_sep rfl _ _ _ rfl 3 i0 _ 1 8 Try.underlying38 hi0 hz0 hz1 hz2 rfl (by omega) (SX.out.junk _) 0 q k d _ rfl rfl _ 1 1 _ rfl (Rd.oneIat _ _ _ _ (by simp [World.setCell])) (one_encI _) (by omega) (by omega) ?_; intro q' d' w' S' hsz; have S5 := Lib.hid S'; clear S' hsz))
      go_roundw
      case rel => exact ⟨k + 1, q', d', by omega, by go_num, rfl, by rw [HT.out, HC.out, encI_append, ← encI_set]; exact S5.out⟩
      case measure => simp [intOf]; omega
    · obtain rfl : k = m := by omega
      have HT : Hid (E.take k = E) := by unfold Hid; rw [List.take_of_length_le (by rw [← L1.out]; omega)]
      rw [HT.out, ← sumL_zero (fun x hx => (HB.out x hx).1)] at S
      have SH := Lib.hid S; clear S
      go_wp2
      go_loopw [8, 33] (fun _ i wr => ∃ v : Nat, v ≤ n ∧ i = .int .i64 v ∧ Sep w wr [.own 3 1 q k d (encI (toL E)), .own 3 1 qo (n + 1) (n + 1) (encI (sumL n E v))]) (fun _ i _ => n - (intOf i).toNat)
      case atStart => exact ⟨0, Nat.zero_le _, rfl, SH.out⟩
      case round =>
        clear SH
        obtain ⟨v, hv, rfl, S⟩ := hrel
        by_cases hlv : v < n
        · have c0 := (S.rd 1 rfl (by omega)).cI (k := v) (by omega)
          have c1 := (S.rd 1 rfl (by omega)).cI (k := v + 1) (by omega)
          have po := (S.rd 1 rfl (by omega)).ptr
          have fz := own_frozen (S.own 1 rfl) (by omega) (v + 1)
          have HC := Lib.hid (sumL_step E hlv)
          have bnd : ∀ j, j < n + 1 → 0 ≤ nth (sumL n E v) j ∧ nth (sumL n E v) j ≤ 2000 := fun j hj => by
            rw [sumL_nth _ hj]
            have := L1.out
            split
            · have h1 := List.countP_le_length (p := fun x : Int × Int => decide (x.1 < (j:Int))) (l := E)
              omega
            · have h1 := List.countP_le_length (p := fun x : Int × Int => decide (x.1 + 1 = (j:Int))) (l := E)
              omega
          have bd0 := bnd v (by omega)
          have bd1 := bnd (v + 1) (by omega)
          generalize nth (sumL n E v) v = x0 at *
          generalize nth (sumL n E v) (v + 1) = x1 at *
          have d1 : (0:Int) ≤ v := by omega
          have d2 : (v:Int) < n := by omega
          have d3 : (0:Int) ≤ (v:Int) + 1 := by omega
          have d4 : (v:Int) + 1 < ((n + 1 : Nat) : Int) := by omega
          have d5 : (v:Int) < ((n + 1 : Nat) : Int) := by omega
          clear bnd
          have SH := Lib.hid S; clear S
          go_wp2
          have y0 := fun x : ExtOf wr => x.ext.cell c0
          have y1 := fun x : ExtOf wr => x.ext.cell c1
          refine wp_region_mix [true, true, true, true, true, true, true, true, true, true, true] (fun _ _ _ => True) (by kernel_rfl) (by kernel_rfl) (by kernel_rfl) (fun _ _ _ _ _ h => h) ?_
          simp only [nfM]
          repeat (go_big_quiet_step ((fail)))
          refine wpQuiet_nil ⟨trivial, fun vs W1 hE _ => ?_⟩
          have S2 := SH.out.call hE
          have po2 := (S2.rd 1 rfl (by omega)).ptr
          have fz2 := own_frozen (S2.own 1 rfl) (by omega) (v + 1)
          have k1 := hE.cell c1
          have S3 := Lib.hid (S2.setRow 1 rfl (v + 1) (by omega) (.int .i64 (x1 + x0)))
          clear S2 y0 y1 c0 c1 fz
          simp only [putM, List.length_cons, List.length_nil, Nat.zero_add, Nat.reduceAdd, List.drop_succ_cons, List.drop_zero]
          go_wp2
          go_roundw
          case rel => exact ⟨v + 1, by omega, by go_num, by rw [HC.out, ← encI_set]; exact S3.out⟩
          case measure => simp [intOf]; omega
        · obtain rfl : v = n := by omega
          rw [sumL_end] at S
          have SH := Lib.hid S; clear S
          go_wp2
          go_ret2
          exact ⟨qo, _, q, d, rfl, SH.out⟩
end Go.Proofs.Ytcjkechemjdboaa
