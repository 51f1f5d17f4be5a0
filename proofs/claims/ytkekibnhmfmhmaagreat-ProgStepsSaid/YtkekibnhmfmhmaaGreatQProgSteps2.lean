/- Texts of this claim, one behind the other: Gr, R6, G8, Pst5, G1, Chk5, R7, R8, R5, R9, RT, Plain2, FndA, FndB, Ref5, Spec4, PlainHp, PlainL, PlainBF, PlainD, Ref5b, Own5, SortT, PlainMk, PlainA, PlainB, PlainP8, PlainR, Rng, It4, It4b, Half4, Half4b, Chk4, Chk4b. -/
import Derived.Laws.EntriesVeiled
import Derived.RangeFuncNested
import Derived.RangeFuncBound
import Derived.RangeFuncCalls
import Derived.RangeFuncLeaves
import Derived.Sort.QuietThIn
import Derived.OwnWalkIn
import Derived.TacticsInMore
import Derived.LoopNIn
import Derived.LoopIn
import Derived.Test.YtkekibnhmfmhmaaGreatLay
import Derived.Shelf.Abstract
import Derived.WalkKit
import Derived.Test.YtkekibnhmfmhmaaGreatQProgSteps1
/- A slice of slices of texts that the call itself made. -/
namespace Go.Proofs.YtkekibnhmfmhmaaGreat
open Go Go.RowKit
/-- rows of texts of the call's own, the row of headers too -/
structure OwnW (w : World) (base : Nat) (q : Option Addr) (n c : Nat) (hs : List Hd) (wss : List (List ByteArray)) : Prop where
  hn : hs.length = wss.length
  row : w.ownsRow base 22 1 (.slice q n c) n (encH hs)
  each : ∀ j, j < n → w.ownsRow base 9 1 (.slice (nth hs j).p (nth hs j).n (nth hs j).c) (nth hs j).n (encS (nth wss j))
section
variable {w w' : World} {base : Nat} {q : Option Addr} {n c : Nat} {hs : List Hd} {wss : List (List ByteArray)}
theorem OwnW.nil (w : World) (base : Nat) : OwnW w base none 0 0 [] [] := ⟨rfl, World.ownsRow_nil _ _ _ _, fun j hj => by omega⟩
theorem OwnW.len (h : OwnW w base q n c hs wss) : n = wss.length := by
  have := h.row.1; rw [encH_len, h.hn] at this; omega
theorem OwnW.ext (h : OwnW w base q n c hs wss) (he : Ext w w') : OwnW w' base q n c hs wss := ⟨h.hn, he.own h.row, fun j hj => he.own (h.each j hj)⟩
theorem OwnW.set_ (h : OwnW w base q n c hs wss) {g : Nat} {t : TypeId} {cs : Array Value} (hg : Blk w g t cs) (h1 : 22 ≠ t) (h2 : 9 ≠ t) (i : Nat) (u : Value) : OwnW (w.setCell ⟨g, i, none⟩ u) base q n c hs wss :=
  ⟨h.hn, own_set h.row hg h1 i u, fun j hj => own_set (h.each j hj) hg h2 i u⟩
theorem nth_append_left {α : Type} [Inhabited α] (l m : List α) (j : Nat) (h : j < l.length) : nth (l ++ m) j = nth l j := by
  rw [nth_eq (by simp; omega), nth_eq h, List.getElem_append_left h]
theorem nth_append_new {α : Type} [Inhabited α] (l : List α) (x : α) : nth (l ++ [x]) l.length = x := by
  rw [nth_eq (by simp)]; simp
theorem OwnW.push (h : OwnW w base q n c hs wss) {p : Option Addr} {m d : Nat} {l : List ByteArray} (hr : w.ownsRow base 9 1 (.slice p m d) m (encS l)) {q' : Option Addr} {c' : Nat}
    (ho : w'.ownsRow base 22 1 (.slice q' (n + 1) c') (n + 1) (encH hs ++ [.slice p m d])) (hg : w.grownBy w' (blkOf q)) : OwnW w' base q' (n + 1) c' (hs ++ [⟨p, m, d⟩]) (wss ++ [l]) := by
  have hl := h.len
  refine ⟨by simp [h.hn], by rw [show encH (hs ++ [⟨p, m, d⟩]) = encH hs ++ [.slice p m d] from by simp [encH, Hd.v]]; exact ho, fun j hj => ?_⟩
  by_cases hjn : j < n
  · rw [nth_append_left _ _ _ (by rw [h.hn]; omega), nth_append_left _ _ _ (by omega)]
    exact own_grown (h.each j hjn) hg (own_own_ne h.row (h.each j hjn) (by decide))
  · have e1 : j = wss.length := by omega
    have e2 : j = hs.length := by rw [h.hn]; exact e1
    have a1 : nth (wss ++ [l]) j = l := by rw [e1]; exact nth_append_new _ _
    have a2 : nth (hs ++ [(⟨p, m, d⟩ : Hd)]) j = ⟨p, m, d⟩ := by rw [e2]; exact nth_append_new _ _
    rw [a1, a2]
    exact own_grown hr hg (own_own_ne h.row hr (by decide))
theorem OwnW.push1 (h : OwnW w base q n c hs wss) {p : Option Addr} {m d : Nat} {l : List ByteArray} (hr : w.ownsRow base 9 1 (.slice p m d) m (encS l)) {q' : Option Addr} {c' : Nat} {o : Obj}
    (ho : w'.ownsRow base 22 1 (.slice q' (n + 1) c') (n + 1) (encH hs ++ [.slice p m d])) (hg : (w.alloc o).grownBy w' (blkOf q)) : OwnW w' base q' (n + 1) c' (hs ++ [⟨p, m, d⟩]) (wss ++ [l]) :=
  OwnW.push (h.ext (Ext.alloc (Below.refl _ _) o)) (hr.alloc o) ho hg
theorem OwnW.rd (h : OwnW w base q n c hs wss) (hs1 : n ≤ 9223372036854775807) (hs2 : ∀ l ∈ wss, l.length ≤ 9223372036854775807) : RdW w q n hs wss := by
  refine ⟨h.hn, Rd.of_own h.row hs1, fun j hj => Rd.of_own (h.each j hj) ?_⟩
  have := (h.each j hj).1
  rw [encS_len, Nat.mul_one] at this
  rw [← this]
  have hl := h.len
  exact hs2 _ (by rw [nth_eq (by omega)]; exact List.getElem_mem _)
end
end Go.Proofs.YtkekibnhmfmhmaaGreat
namespace Go.Proofs.YtkekibnhmfmhmaaGreat
open Go Go.RowKit
attribute [local go_sem ↓] eqEdge neqEdge guardEdge
theorem inf34 : (Tryz.prog.info? 108).map (fun i => (i.zero, i.size, i.bytes)) = some (some (.agg #[.int .i64 0, .int .i64 0]), 2, 16) := by kernel_rfl
end Go.Proofs.YtkekibnhmfmhmaaGreat
namespace Go.Proofs.YtkekibnhmfmhmaaGreat
open Go Go.RowKit Go.Shelf Go.Lib Go.Sort
set_option maxRecDepth 100000 in
theorem CloneE (p : Option Addr) (n c : Nat) (l : List (Int × Int)) (w : World) (hl : Rd w 2 p n (encE l)) (hn : n ≤ 100000) :
    Calls Tryz.prog 138 #[.slice p n c] w fun e w' => ∃ q c', e = .returned (.slice q n c') ∧ w'.ownsRow w.heap.size 108 2 (.slice q n c') n (encE l) ∧ Ext w w' := by
  obtain ⟨i0, hi0, hz0, hz1, hz2⟩ := info_parts inf34
  have hp := hl.ptr
  cases p with
  | none =>
    have h0 : n = 0 := by rcases hp with h | ⟨_, _, h⟩; exact h; cases h
    subst h0
    have hnil : encE l = [] := List.eq_nil_of_length_eq_zero (by have := hl.len; simpa using this)
    rw [hnil]
    clear hl hp hnil
    have hr := fun W => Lib.run_eql_slice_nil (P := Tryz.prog) W 109 108 none 0 c 0 0 Tryz.underlying109
    go_enter Tryz.func138, Tryz.ntmps138
    go_wp2
    go_ret
    exact ⟨none, 0, rfl, World.ownsRow_nil _ _ _ _, Below.refl _ _⟩
  | some ad =>
    have hr := fun W => Lib.run_eql_slice_nil (P := Tryz.prog) W 109 108 (some ad) n c 0 0 Tryz.underlying109
    have HL := Lib.hid hl; clear hl hp
    go_enter Tryz.func138, Tryz.ntmps138
    go_wp2_with (at_builtin; refine wpList_append_rd rfl _ _ _ rfl w.heap.size 108 i0 _ 2 16 Tryz.underlying109 hi0 hz0 hz1 hz2 rfl (by omega) (some ⟨w.heap.size, 0, none⟩) 0 0 [] rfl (World.ownsRow_made w #[] 0 (Nat.le_refl _) (by simp [maxLen]) rfl) (some ad) n c (encE l) rfl (HL.out.ext (Ext.alloc (Below.refl _ _) _)) (one_encE l) (by omega) (by omega) (by simp) ?_; intro q' c' w1 hown hg hat hb)
    go_ret
    simp only [Nat.zero_add, List.nil_append] at hown
    exact ⟨q', c', rfl, hown, Below.trans ((Below.refl _ _).alloc (Nat.le_refl _) _) hb⟩
set_option maxRecDepth 100000 in
theorem CloneS (p : Option Addr) (n c : Nat) (l : List ByteArray) (w : World) (hl : Rd w 1 p n (encS l)) (hn : n ≤ 100000) :
    Calls Tryz.prog 168 #[.slice p n c] w fun e w' => ∃ q c', e = .returned (.slice q n c') ∧ w'.ownsRow w.heap.size 9 1 (.slice q n c') n (encS l) ∧ Ext w w' := by
  obtain ⟨i0, hi0, hz0, hz1, hz2⟩ := info_parts inf9
  have hp := hl.ptr
  cases p with
  | none =>
    have h0 : n = 0 := by rcases hp with h | ⟨_, _, h⟩; exact h; cases h
    subst h0
    have hnil : encS l = [] := List.eq_nil_of_length_eq_zero (by have := hl.len; simpa using this)
    rw [hnil]
    clear hl hp hnil
    have hr := fun W => Lib.run_eql_slice_nil (P := Tryz.prog) W 22 9 none 0 c 0 0 Tryz.underlying22
    go_enter Tryz.func168, Tryz.ntmps168
    go_wp2
    go_ret
    exact ⟨none, 0, rfl, World.ownsRow_nil _ _ _ _, Below.refl _ _⟩
  | some ad =>
    have hr := fun W => Lib.run_eql_slice_nil (P := Tryz.prog) W 22 9 (some ad) n c 0 0 Tryz.underlying22
    have HL := Lib.hid hl; clear hl hp
    go_enter Tryz.func168, Tryz.ntmps168
    go_wp2_with (at_builtin; refine wpList_append_rd rfl _ _ _ rfl w.heap.size 9 i0 _ 1 16 Tryz.underlying22 hi0 hz0 hz1 hz2 rfl (by omega) (some ⟨w.heap.size, 0, none⟩) 0 0 [] rfl (World.ownsRow_made w #[] 0 (Nat.le_refl _) (by simp [maxLen]) rfl) (some ad) n c (encS l) rfl (HL.out.ext (Ext.alloc (Below.refl _ _) _)) (one_encS l) (by omega) (by omega) (by simp) ?_; intro q' c' w1 hown hg hat hb)
    go_ret
    simp only [Nat.zero_add, List.nil_append] at hown
    exact ⟨q', c', rfl, hown, Below.trans ((Below.refl _ _).alloc (Nat.le_refl _) _) hb⟩
set_option maxRecDepth 100000 in
/-- elements that rise, each once -/
theorem OnceE (p : Option Addr) (n c : Nat) (l : List (Int × Int)) (w : World) (hl : Rd w 2 p n (encE l)) (hn : n ≤ 100000) :
    Calls Tryz.prog 158 #[.slice p n c, .agg #[.func (.func 154) #[] #[]]] w fun e w' => ∃ q c', e = .returned (.slice q (dedup (sortBy lessE l)).length c') ∧ w'.ownsRow w.heap.size 108 2 (.slice q (dedup (sortBy lessE l)).length c') (dedup (sortBy lessE l)).length (encE (dedup (sortBy lessE l))) ∧ Ext w w' := by
  have HL := Lib.hid hl; clear hl
  go_enter Tryz.func158, Tryz.ntmps158
  go_wp2_with (first
    | (go_at_call 138; go_must ((refine (CloneE p n c l _ (HL.out.ext (Ext.alloc (Below.refl _ _) _)) hn).mono ?_; rintro e w1 ⟨q, c1, rfl, own, hb1⟩; have O1 := Lib.hid own; have B1 := Lib.hid hb1; have x0 := Ext.cell hb1 (cellnew0 _ _ _ _); clear own hb1)))
    | (go_at_call 166; have _t := O1; go_must ((refine (SortE _ q n c1 l _ O1.out (Nat.le_trans hn (by omega)) B1.out.size).mono ?_; rintro e w2 ⟨rfl, own, hgr, hb2⟩; have O2 := Lib.hid own; have B2 := Lib.hid hb2; clear own hgr hb2)))
    | (go_at_call 167; have _t := O2; go_must ((refine (CompactE _ q n c1 _ _ O2.out hn (Nat.le_trans B1.out.size B2.out.size)).mono ?_; rintro e w3 ⟨rfl, own, hgr, hb3⟩; have O3 := Lib.hid own; have B3 := Lib.hid hb3; clear own hgr hb3))))
  go_ret
  refine ⟨q, c1, rfl, own_base O3.out (by simp), ?_⟩
  have h1 := Below.trans (Below.trans B1.out B2.out) B3.out
  exact Below.trans ((Below.refl w.heap.size w).alloc (Nat.le_refl _) _) (h1.mono (by simp))
set_option maxRecDepth 100000 in
/-- elements that rise, each once -/
theorem OnceS (p : Option Addr) (n c : Nat) (l : List ByteArray) (w : World) (hl : Rd w 1 p n (encS l)) (hn : n ≤ 100000) :
    Calls Tryz.prog 159 #[.slice p n c, .agg #[.func (.func 151) #[] #[]]] w fun e w' => ∃ q c', e = .returned (.slice q (dedup (sortBy sLess l)).length c') ∧ w'.ownsRow w.heap.size 9 1 (.slice q (dedup (sortBy sLess l)).length c') (dedup (sortBy sLess l)).length (encS (dedup (sortBy sLess l))) ∧ Ext w w' := by
  have HL := Lib.hid hl; clear hl
  go_enter Tryz.func159, Tryz.ntmps159
  go_wp2_with (first
    | (go_at_call 168; go_must ((refine (CloneS p n c l _ (HL.out.ext (Ext.alloc (Below.refl _ _) _)) hn).mono ?_; rintro e w1 ⟨q, c1, rfl, own, hb1⟩; have O1 := Lib.hid own; have B1 := Lib.hid hb1; have x0 := Ext.cell hb1 (cellnew0 _ _ _ _); clear own hb1)))
    | (go_at_call 169; have _t := O1; go_must ((refine (SortS _ q n c1 l _ O1.out (Nat.le_trans hn (by omega)) B1.out.size).mono ?_; rintro e w2 ⟨rfl, own, hgr, hb2⟩; have O2 := Lib.hid own; have B2 := Lib.hid hb2; clear own hgr hb2)))
    | (go_at_call 170; have _t := O2; go_must ((refine (CompactSC _ q n c1 _ _ O2.out (Nat.le_trans hn (by omega)) (Nat.le_trans B1.out.size B2.out.size)).mono ?_; rintro e w3 ⟨rfl, own, hgr, hb3⟩; have O3 := Lib.hid own; have B3 := Lib.hid hb3; clear own hgr hb3))))
  go_ret
  refine ⟨q, c1, rfl, own_base O3.out (by simp), ?_⟩
  have h1 := Below.trans (Below.trans B1.out B2.out) B3.out
  exact Below.trans ((Below.refl w.heap.size w).alloc (Nat.le_refl _) _) (h1.mono (by simp))
theorem EdgesG (w : World) : Calls Tryz.prog 136 #[] w fun e w' => e = .returned (.agg #[.func (.func 154) #[] #[]]) ∧ Ext w w' := by
  go_enter Tryz.func136, Tryz.ntmps136
  go_wp2
  exact bodyPost_ret (v := .agg #[.func (.func 154) #[] #[]]) (by simp [results, Tryz.results136, go_sem, Tryz.sizeOf196, Tryz.isAgg196]) rfl ⟨rfl, (Below.refl _ _).alloc (Nat.le_refl _) _⟩
theorem WordsG (w : World) : Calls Tryz.prog 133 #[] w fun e w' => e = .returned (.agg #[.func (.func 151) #[] #[]]) ∧ Ext w w' := by
  go_enter Tryz.func133, Tryz.ntmps133
  go_wp2
  exact bodyPost_ret (v := .agg #[.func (.func 151) #[] #[]]) (by simp [results, Tryz.results133, go_sem, Tryz.sizeOf190, Tryz.isAgg190]) rfl ⟨rfl, (Below.refl _ _).alloc (Nat.le_refl _) _⟩
end Go.Proofs.YtkekibnhmfmhmaaGreat
/- Rows of postings that are read; cloning numbers; the postings of a word. -/
namespace Go.Proofs.YtkekibnhmfmhmaaGreat
open Go Go.RowKit Go.Maps
abbrev Po := ByteArray × List Int
/-- a slice of postings reads L -/
structure RdP (w : World) (p : Option Addr) (n : Nat) (hs : List Hd) (L : List Po) : Prop where
  hn : n = L.length
  ptr : SlP p n
  small : n ≤ 9223372036854775807
  c1 : ∀ k, k < n → w.cell? (adr p (k * 2)) = some (.string (nth L k).1)
  c2 : ∀ k, k < n → w.cell? (adr p (k * 2 + 1)) = some (.slice (nth hs k).p (nth hs k).n (nth hs k).c)
  each : ∀ k, k < n → Rd w 1 (nth hs k).p (nth hs k).n (encI (nth L k).2)
theorem RdP.ext {w w' : World} {p : Option Addr} {n : Nat} {hs : List Hd} {L : List Po} (h : RdP w p n hs L) (he : Ext w w') : RdP w' p n hs L :=
  ⟨h.hn, h.ptr, h.small, fun k hk => he.cell (h.c1 k hk), fun k hk => he.cell (h.c2 k hk), fun k hk => (h.each k hk).ext he⟩
/-- all numbers are the machine's, and not too many -/
def PoOk (L : List Po) : Prop := ∀ p ∈ L, p.2.length ≤ 1000 ∧ ∀ x ∈ p.2, I64 x
theorem PoOk.at {L : List Po} (h : PoOk L) {k : Nat} (hk : k < L.length) : (nth L k).2.length ≤ 1000 ∧ ∀ x ∈ (nth L k).2, I64 x := h _ (by rw [nth_eq hk]; exact List.getElem_mem _)
/-- the places of a word -/
def findL : List Po → ByteArray → List Int
  | [], _ => []
  | p :: L, s => if p.1 = s then p.2 else findL L s
theorem findL_drop {L : List Po} {s : ByteArray} : ∀ (k : Nat), (∀ j, j < k → (nth L j).1 ≠ s) → k ≤ L.length → findL L s = findL (L.drop k) s := by
  induction L with
  | nil => intro k _ _; simp
  | cons p L ih =>
    intro k h hk
    cases k with
    | zero => rfl
    | succ k =>
      have h0 : p.1 ≠ s := h 0 (by omega)
      rw [List.drop_succ_cons, findL, if_neg h0]
      exact ih k (fun j hj => h (j + 1) (by omega)) (by simpa using hk)
theorem findL_at {L : List Po} {s : ByteArray} {k : Nat} (h : ∀ j, j < k → (nth L j).1 ≠ s) (hk : k < L.length) (he : (nth L k).1 = s) : findL L s = (nth L k).2 := by
  rw [findL_drop k h (by omega), drop_nth L k hk, findL, if_pos he]
theorem findL_no {L : List Po} {s : ByteArray} {k : Nat} (h : ∀ j, j < k → (nth L j).1 ≠ s) (hk : ¬ k < L.length) (hk2 : k ≤ L.length) : findL L s = [] := by
  rw [findL_drop k h hk2, List.drop_of_length_le (by omega), findL]
theorem findL_ok {L : List Po} (h : PoOk L) (s : ByteArray) : (findL L s).length ≤ 1000 ∧ ∀ x ∈ findL L s, I64 x := by
  induction L with
  | nil => exact ⟨by simp [findL], fun x hx => by cases hx⟩
  | cons p L ih =>
    unfold findL
    split
    · exact h p (by simp)
    · exact ih fun q hq => h q (by simp [hq])
theorem Sep.of_own {w w' : World} {e : TypeId} {size : Nat} {q : Option Addr} {n c : Nat} {xs : List Value} (he : Ext w w') (ho : w'.ownsRow w.heap.size e size (.slice q n c) n xs) : Sep w w' [.own e size q n c xs] :=
  (Sep.start w).fresh he ho (Nat.le_refl _)
theorem CloneI (p : Option Addr) (n c : Nat) (l : List Int) (w : World) (hl : Rd w 1 p n (encI l)) (hn : n ≤ 100000) :
    Calls Tryz.prog 121 #[.slice p n c] w fun e w' => ∃ q c', e = .returned (.slice q n c') ∧ Sep w w' [.own 3 1 q n c' (encI l)] := by
  obtain ⟨i0, hi0, hz0, hz1, hz2⟩ := info_parts infI
  have hp := hl.ptr
  cases p with
  | none =>
    have h0 : n = 0 := by rcases hp with h | ⟨_, _, h⟩; exact h; cases h
    subst h0
    have hnil : encI l = [] := List.eq_nil_of_length_eq_zero (by have := hl.len; simpa using this)
    rw [hnil]
    clear hl hp hnil
    have hr := fun W => Lib.run_eql_slice_nil (P := Tryz.prog) W 39 3 none 0 c 0 0 Tryz.underlying39
    go_enter Tryz.func121, Tryz.ntmps121
    go_wp2
    go_ret
    exact ⟨none, 0, rfl, (Sep.start w).nilrow _ _⟩
  | some ad =>
    have hr := fun W => Lib.run_eql_slice_nil (P := Tryz.prog) W 39 3 (some ad) n c 0 0 Tryz.underlying39
    have HL := Lib.hid hl; clear hl hp
    go_enter Tryz.func121, Tryz.ntmps121
    go_wp2_with (at_builtin; refine wpList_append_rd rfl _ _ _ rfl w.heap.size 3 i0 _ 1 8 Tryz.underlying39 hi0 hz0 hz1 hz2 rfl (by omega) (some ⟨w.heap.size, 0, none⟩) 0 0 [] rfl (World.ownsRow_made w #[] 0 (Nat.le_refl _) (by simp [maxLen]) rfl) (some ad) n c (encI l) rfl (HL.out.ext (Ext.alloc (Below.refl _ _) _)) (one_encI l) (by omega) (by omega) (by simp) ?_; intro q' c' w1 hown hg hat hb)
    go_ret
    simp only [Nat.zero_add, List.nil_append] at hown
    exact ⟨q', c', rfl, Sep.of_own (Below.trans ((Below.refl _ _).alloc (Nat.le_refl _) _) hb) hown⟩
theorem OwnI01 (p : Option Addr) (n c : Nat) (l : List Int) (w : World) (hl : Rd w 1 p n (encI l)) (hn : n ≤ 1000000) :
    Calls Tryz.prog 53 #[.slice p n c] w fun e w' => ∃ q c', e = .returned (.slice q n c') ∧ Sep w w' [.own 3 1 q n c' (encI l)] := by
  obtain ⟨i0, hi0, hz0, hz1, hz2⟩ := info_parts infI
  have HL := Lib.hid hl; clear hl
  have S0 := Lib.hid ((Sep.start w).nilrow 3 1)
  go_enter Tryz.func53, Tryz.ntmps53
  go_wp2_with (at_builtin; go_must (refine wpList_append_sep rfl _ _ _ rfl 3 i0 _ 1 8 Tryz.underlying39 hi0 hz0 hz1 hz2 rfl (by omega) S0.out 0 none 0 0 [] rfl rfl p n c (encI l) rfl HL.out (one_encI l) (by omega) (by omega) ?_; intro q' c' w1 S1 hsz; have S2 := Lib.hid S1; clear S1 hsz))
  go_ret
  exact ⟨q', c', rfl, by have := S2.out; rw [Nat.zero_add, List.nil_append] at this; exact this⟩
set_option maxHeartbeats 1000000 in
theorem FindG (p : Option Addr) (n c : Nat) (hs : List Hd) (L : List Po) (s : ByteArray) (w : World) (hL : RdP w p n hs L) (hok : PoOk L) :
    Calls Tryz.prog 107 #[.slice p n c, .string s] w fun e w' => ∃ q c, e = .returned (.slice q (findL L s).length c) ∧ Sep w w' [.own 3 1 q (findL L s).length c (encI (findL L s))] := by
  have p1 := hL.ptr
  have n1 := hL.small
  have l1 := hL.hn
  have HL := Lib.hid hL; clear hL
  have L1 := Lib.hid l1; clear l1
  have HOK := Lib.hid hok; clear hok
  go_enter Tryz.func107, Tryz.ntmps107
  go_wp2
  go_loopw [6, 9] (fun _ i wr => ∃ k : Nat, k ≤ n ∧ i = .int .i64 k ∧ (∀ j, j < k → (nth L j).1 ≠ s) ∧ Sep w wr []) (fun _ i _ => n - (intOf i).toNat)
  case atStart => exact ⟨0, Nat.zero_le _, rfl, fun j hj => by omega, Sep.start w⟩
  case round =>
    obtain ⟨k, hk, rfl, ha, S⟩ := hrel
    have HA := Lib.hid ha; clear ha
    by_cases hlt : k < n
    · have g1 := S.ext.cell (HL.out.c1 k hlt)
      have g2 := S.ext.cell (HL.out.c2 k hlt)
      have RE := Lib.hid ((HL.out.each k hlt).ext S.ext)
      have SH := Lib.hid S; clear S
      have d1 : (0:Int) ≤ k := by omega
      have d2 : (k:Int) < n := by omega
      have hb0 := Lib.hid (str_beq (nth L k).1 s)
      have hlen : (nth hs k).n ≤ 1000 := by rw [RE.out.nI]; exact (HOK.out.at (by rw [← L1.out]; exact hlt)).1
      by_cases he : (nth L k).1 = s
      · have hq2 : ((nth L k).1.toList == s.toList) = true := by rw [hb0.out]; simp [he]
        have HF := Lib.hid (findL_at HA.out (by rw [← L1.out]; exact hlt) he)
        clear he
        go_wp2_with (go_at_call 121; go_must (refine (CloneI _ _ _ _ _ (RE.out.ext (Ext.alloc (Below.refl _ _) _)) (by omega)).mono ?_; rintro e w2 ⟨q, c', rfl, S1⟩; have S2 := Lib.hid ((SH.out.junk _).comp S1); clear S1))
        go_ret
        rw [HF.out]
        have h3 := RE.out.nI
        exact ⟨q, c', ret_slc h3, by rw [← h3]; exact S2.out⟩
      · have hq2 : ((nth L k).1.toList == s.toList) = false := by rw [hb0.out]; simp [he]
        have HE := Lib.hid he; clear he
        go_wp2
        go_roundw
        case rel => exact ⟨k + 1, by omega, by go_num, fun j hj => by
          rcases Nat.lt_succ_iff_lt_or_eq.1 hj with h | h
          · exact HA.out j h
          · subst h; exact HE.out, SH.out.junk _⟩
        case measure => simp [intOf]; omega
    · have HF := Lib.hid (findL_no HA.out (by rw [← L1.out]; exact hlt) (by rw [← L1.out]; exact hk))
      have SH := Lib.hid S; clear S
      go_wp2
      go_ret
      rw [HF.out]
      exact ⟨none, 0, rfl, SH.out.nilrow _ _⟩
set_option maxHeartbeats 1000000 in
theorem Find05 (p : Option Addr) (n c : Nat) (hs : List Hd) (L : List Po) (s : ByteArray) (w : World) (hL : RdP w p n hs L) (hok : PoOk L) :
    Calls Tryz.prog 100 #[.slice p n c, .string s] w fun e w' => ∃ q c, e = .returned (.slice q (findL L s).length c) ∧ Sep w w' [.own 3 1 q (findL L s).length c (encI (findL L s))] := by
  have p1 := hL.ptr
  have n1 := hL.small
  have l1 := hL.hn
  have HL := Lib.hid hL; clear hL
  have L1 := Lib.hid l1; clear l1
  have HOK := Lib.hid hok; clear hok
  go_enter Tryz.func100, Tryz.ntmps100
  go_wp2
  go_loopw [5] (fun i wr => ∃ k : Nat, k ≤ n ∧ i = .int .i64 k ∧ (∀ j, j < k → (nth L j).1 ≠ s) ∧ Sep w wr []) (fun i _ => n - (intOf i).toNat)
  case atStart => exact ⟨0, Nat.zero_le _, rfl, fun j hj => by omega, Sep.start w⟩
  case round =>
    obtain ⟨k, hk, rfl, ha, S⟩ := hrel
    have HA := Lib.hid ha; clear ha
    by_cases hlt : k < n
    · have g1 := S.ext.cell (HL.out.c1 k hlt)
      have g2 := S.ext.cell (HL.out.c2 k hlt)
      have RE := Lib.hid ((HL.out.each k hlt).ext S.ext)
      have SH := Lib.hid S; clear S
      have d1 : (0:Int) ≤ k := by omega
      have d2 : (k:Int) < n := by omega
      have hb0 := Lib.hid (str_beq (nth L k).1 s)
      have hlen : (nth hs k).n ≤ 1000 := by rw [RE.out.nI]; exact (HOK.out.at (by rw [← L1.out]; exact hlt)).1
      by_cases he : (nth L k).1 = s
      · have hq2 : ((nth L k).1.toList == s.toList) = true := by rw [hb0.out]; simp [he]
        have HF := Lib.hid (findL_at HA.out (by rw [← L1.out]; exact hlt) he)
        clear he
        go_wp2_with (go_at_call 53; go_must (refine (OwnI01 _ _ _ _ _ RE.out (by omega)).mono ?_; rintro e w2 ⟨q, c', rfl, S1⟩; have S2 := Lib.hid (SH.out.comp S1); clear S1))
        go_ret
        rw [HF.out]
        have h3 := RE.out.nI
        exact ⟨q, c', ret_slc h3, by rw [← h3]; exact S2.out⟩
      · have hq2 : ((nth L k).1.toList == s.toList) = false := by rw [hb0.out]; simp [he]
        have HE := Lib.hid he; clear he
        go_wp2
        go_roundw
        case rel => exact ⟨k + 1, by omega, by go_num, fun j hj => by
          rcases Nat.lt_succ_iff_lt_or_eq.1 hj with h | h
          · exact HA.out j h
          · subst h; exact HE.out, SH.out⟩
        case measure => simp [intOf]; omega
    · have HF := Lib.hid (findL_no HA.out (by rw [← L1.out]; exact hlt) (by rw [← L1.out]; exact hk))
      have SH := Lib.hid S; clear S
      go_wp2
      go_ret
      rw [HF.out]
      exact ⟨none, 0, rfl, SH.out.nilrow _ _⟩
end Go.Proofs.YtkekibnhmfmhmaaGreat
namespace Go.Proofs.YtkekibnhmfmhmaaGreat
open Go Go.RowKit
set_option maxHeartbeats 400000 in
theorem WordG (s : ByteArray) (w : World) (hs : s.size ≤ 140737488355328) : Calls Tryz.prog 62 #[.string s] w fun e w' => e = .returned (.bool (wordB s)) ∧ w = w' := by
  go_enter Tryz.func62, Tryz.ntmps62
  go_wp2
  go_loop [3, 6] (fun _ i => ∃ k : Nat, k ≤ s.size ∧ i = .int .i64 k ∧ (s.data.toList.take k).all lowB = true) (fun _ i => s.size - (intOf i).toNat)
  case atStart => exact ⟨0, Nat.zero_le _, rfl, rfl⟩
  case round =>
    obtain ⟨k, hk, rfl, ha⟩ := hrel
    have HA := Lib.hid ha; clear ha
    by_cases hlt : k < s.size
    · by_cases h1 : (s[k].toNat : Int) < 97
      · go_wp2
        go_ret
        exact ⟨ret_bool (wordB_no s k hlt (by omega)), rfl⟩
      · by_cases h2 : 122 < (s[k].toNat : Int)
        · go_wp2
          go_ret
          exact ⟨ret_bool (wordB_no s k hlt (by omega)), rfl⟩
        · go_wp2
          go_round
          case rel => exact ⟨k + 1, by omega, by go_num, wordB_step s k hlt HA.out (by omega) (by omega)⟩
          case measure => simp [intOf]; omega
    · have HE := Lib.hid (wordB_end s k hlt HA.out)
      by_cases h1 : s.size = 0
      · have he : s.toList = [] := by rw [ByteArray.toList_eq]; have : s.data.size = 0 := h1; exact List.length_eq_zero_iff.1 (by simpa using this)
        have he2 : (!s.toList.isEmpty) = false := by rw [he]; rfl
        have HZ := Lib.hid h1; clear h1
        go_wp2
        go_ret
        exact ⟨ret_bool (by rw [HE.out, HZ.out]; rfl), rfl⟩
      · have he : s.toList ≠ [] := by rw [ByteArray.toList_eq]; intro h; apply h1; have : s.data.toList.length = 0 := by rw [h]; rfl
                                      simpa using this
        have he2 : (!s.toList.isEmpty) = true := by simp [he]
        go_wp2
        go_ret
        exact ⟨ret_bool (by rw [HE.out, Bool.eq_iff_iff]; simp; omega), rfl⟩
theorem isPlaceG (N : Int) (pe : Option Addr) (ne ce : Nat) (pw : Option Addr) (nw cw : Nat) (v : Int) (w : World) :
    Calls Tryz.prog 152 #[.agg #[.int .i64 N, .slice pe ne ce, .slice pw nw cw], .int .i64 v] w fun e w' => e = .returned (.bool (decide (0 ≤ v ∧ v < N))) ∧ Ext w w' := by
  by_cases h : 0 ≤ v
  · go_enter Tryz.func152, Tryz.ntmps152
    go_wp2
    go_ret
    exact ⟨ret_bool (by rw [Bool.eq_iff_iff]; simp [h]), (Below.refl _ _).alloc (Nat.le_refl _) _⟩
  · go_enter Tryz.func152, Tryz.ntmps152
    go_wp2
    go_ret
    exact ⟨ret_bool (by rw [Bool.eq_iff_iff]; simp; omega), (Below.refl _ _).alloc (Nat.le_refl _) _⟩
theorem CheckLit (s : ByteArray) (w : World) (hs : s.size ≤ 140737488355328) : Calls Tryz.prog 153 #[.string s] w fun e w' => e = .returned (.bool (!wordB s)) ∧ w = w' := by
  go_enter Tryz.func153, Tryz.ntmps153
  go_wp2_with (go_at_call 62; refine (WordG _ _ hs).mono ?_; rintro e w' ⟨rfl, rfl⟩)
  go_ret
  exact ⟨rfl, rfl⟩
set_option maxHeartbeats 400000 in
/-- the first place of a text that is no word, or -1 -/
theorem IndexWord (p : Option Addr) (n c : Nat) (l : List ByteArray) (w : World) (hl : Rd w 1 p n (encS l)) (hz : ∀ s ∈ l, s.size ≤ 1000000) :
    Calls Tryz.prog 91 #[.slice p n c, .func (.func 153) #[] #[]] w fun e w' => ∃ i : Int, e = .returned (.int .i64 i) ∧ decide (0 ≤ i) = l.any (fun s => !wordB s) ∧ w = w' := by
  have p1 := hl.ptr
  have n1 := hl.small
  have l1 := hl.nS
  have HL := Lib.hid hl; clear hl
  have L1 := Lib.hid l1; clear l1
  have HZ := Lib.hid hz; clear hz
  go_enter Tryz.func91, Tryz.ntmps91
  go_wp2
  go_loop [5, 8] (fun _ i => ∃ k : Nat, k ≤ n ∧ i = .int .i64 k ∧ (l.take k).any (fun s => !wordB s) = false) (fun _ i => n - (intOf i).toNat)
  case atStart => exact ⟨0, Nat.zero_le _, rfl, rfl⟩
  case round =>
    obtain ⟨k, hk, rfl, ha⟩ := hrel
    have HA := Lib.hid ha; clear ha
    by_cases hlt : k < n
    · have g1 := HL.out.cS hlt
      have hsz : (nth l k).size ≤ 140737488355328 := by
        have := HZ.out (nth l k) (by rw [nth_eq (by rw [← L1.out]; exact hlt)]; exact List.getElem_mem _)
        omega
      by_cases hw : (!wordB (nth l k)) = true
      · have HF := Lib.hid (any_true_at (fun s => !wordB s) l k (by rw [← L1.out]; exact hlt) hw)
        go_wp2_with (go_at_call 153; refine (CheckLit _ _ hsz).mono ?_; rintro e w' ⟨rfl, rfl⟩)
        go_ret
        exact ⟨_, rfl, by rw [HF.out]; simp, rfl⟩
      · have hw' : (!wordB (nth l k)) = false := by simpa using hw
        have HW' := Lib.hid hw'
        clear hw
        go_wp2_with (go_at_call 153; refine (CheckLit _ _ hsz).mono ?_; rintro e w' ⟨rfl, rfl⟩)
        go_round
        case rel => exact ⟨k + 1, by omega, by go_num, any_step _ _ _ (by rw [← L1.out]; exact hlt) HA.out HW'.out⟩
        case measure => simp [intOf]; omega
    · have HF := Lib.hid (any_end _ _ _ (by rw [← L1.out]; exact hlt) HA.out)
      go_wp2
      go_ret
      exact ⟨_, rfl, by rw [HF.out]; rfl, rfl⟩
theorem ContainsWord (p : Option Addr) (n c : Nat) (l : List ByteArray) (w : World) (hl : Rd w 1 p n (encS l)) (hz : ∀ s ∈ l, s.size ≤ 1000000) :
    Calls Tryz.prog 63 #[.slice p n c, .func (.func 153) #[] #[]] w fun e w' => e = .returned (.bool (l.any (fun s => !wordB s))) ∧ w = w' := by
  have HC := Lib.hid (IndexWord p n c l w hl hz)
  clear hl hz
  go_enter Tryz.func63, Tryz.ntmps63
  go_wp2_with (go_at_call 91; refine HC.out.mono ?_; rintro e w' ⟨i, rfl, hi, rfl⟩; have HI := Lib.hid hi; clear hi)
  go_ret
  exact ⟨ret_bool HI.out, rfl⟩
end Go.Proofs.YtkekibnhmfmhmaaGreat
/- What right postings are: the program's rise and Check, the reference's Check. -/
namespace Go.Proofs.YtkekibnhmfmhmaaGreat
open Go Go.RowKit Go.Maps
def okAt (n : Int) (l : List Int) (i : Nat) : Bool := decide (0 ≤ nth l i) && decide (nth l i < n) && (decide (i = 0) || decide (nth l (i - 1) < nth l i))
def riseP (n : Int) (l : List Int) : Bool := decide (0 < l.length) && (List.range l.length).all (okAt n l)
def okP (n : Int) (L : List Po) (i : Nat) : Bool := wordB (nth L i).1 && (decide (i = 0) || sLess (nth L (i - 1)).1 (nth L i).1) && riseP n (nth L i).2
def checkP (n : Int) (L : List Po) : Bool := decide (1 ≤ n) && decide (n ≤ 200) && (List.range L.length).all (okP n L)
theorem riseP_no {n : Int} {l : List Int} {k : Nat} (hk : k < l.length) (h : okAt n l k = false) : riseP n l = false := by
  unfold riseP; rw [range_all_no _ _ k hk h]; simp
theorem riseP_end {n : Int} {l : List Int} {k : Nat} (hk : ¬ k < l.length) (h : (List.range k).all (okAt n l) = true) : riseP n l = decide (0 < l.length) := by
  unfold riseP
  have : (List.range l.length).all (okAt n l) = true := by
    rw [List.all_eq_true] at h ⊢
    exact fun i hi => h i (List.mem_range.2 (by have := List.mem_range.1 hi; omega))
  rw [this]; simp
theorem checkP_no {n : Int} {L : List Po} {k : Nat} (hk : k < L.length) (h : okP n L k = false) : checkP n L = false := by
  unfold checkP; rw [range_all_no _ _ k hk h]; simp
theorem checkP_end {n : Int} {L : List Po} {k : Nat} (hk : ¬ k < L.length) (h : (List.range k).all (okP n L) = true) : checkP n L = (decide (1 ≤ n) && decide (n ≤ 200)) := by
  unfold checkP
  have : (List.range L.length).all (okP n L) = true := by
    rw [List.all_eq_true] at h ⊢
    exact fun i hi => h i (List.mem_range.2 (by have := List.mem_range.1 hi; omega))
  rw [this]; simp
theorem WordX (s : ByteArray) (w : World) (hs : s.size ≤ 140737488355328) : Calls Tryz.prog 62 #[.string s] w fun e w' => e = .returned (.bool (wordB s)) ∧ Ext w w' :=
  (WordG s w hs).mono fun _ _ ⟨h, hw⟩ => ⟨h, by subst hw; exact Below.refl _ _⟩
/-- texts that are not too long -/
def PoSz (L : List Po) : Prop := ∀ p ∈ L, p.1.size ≤ 1000000
theorem PoSz.at {L : List Po} (h : PoSz L) {k : Nat} (hk : k < L.length) : (nth L k).1.size ≤ 140737488355328 := by
  have := h (nth L k) (by rw [nth_eq hk]; exact List.getElem_mem _); omega
theorem sLess_eq (a b : ByteArray) : Op.bytesLess a.toList b.toList = sLess a b := rfl
end Go.Proofs.YtkekibnhmfmhmaaGreat
namespace Go.Proofs.YtkekibnhmfmhmaaGreat
open Go Go.RowKit
end Go.Proofs.YtkekibnhmfmhmaaGreat
namespace Go.Proofs.YtkekibnhmfmhmaaGreat
open Go Go.RowKit
theorem inf35 : (Tryz.prog.info? 22).map (fun i => (i.zero, i.size, i.bytes)) = some (some (.slice none 0 0), 1, 24) := by kernel_rfl
/-- a graph in memory of the call's own, read alone -/
def GraphR (w : World) (v : Value) (N : Int) (E : List (Int × Int)) (W : List (List ByteArray)) : Prop :=
  ∃ pe ne ce pw nw cw hs, v = .agg #[.int .i64 N, .slice pe ne ce, .slice pw nw cw] ∧ Rd w 2 pe ne (encE E) ∧ ne ≤ ce ∧ RdW w pw nw hs W ∧ nw ≤ cw
end Go.Proofs.YtkekibnhmfmhmaaGreat
namespace Go.Proofs.YtkekibnhmfmhmaaGreat
open Go Go.RowKit
end Go.Proofs.YtkekibnhmfmhmaaGreat
namespace Go.Proofs.YtkekibnhmfmhmaaGreat
open Go Go.RowKit
/-- what the reference makes: a graph that is read, in memory from a block on -/
def GraphN (w : World) (base : Nat) (v : Value) (N : Int) (E : List (Int × Int)) (W : List (List ByteArray)) : Prop :=
  ∃ pe ne ce pw nw cw hs, v = .agg #[.int .i64 N, .slice pe ne ce, .slice pw nw cw] ∧ Rd w 2 pe ne (encE E) ∧ ne ≤ ce ∧ RdW w pw nw hs W ∧ nw ≤ cw ∧
    (0 < ne → base ≤ (adr pe 0).block) ∧ (0 < nw → base ≤ (adr pw 0).block) ∧ (∀ j, j < nw → 0 < (nth hs j).n → base ≤ (adr (nth hs j).p 0).block)
theorem GraphN.toR {w : World} {base : Nat} {v : Value} {N : Int} {E : List (Int × Int)} {W : List (List ByteArray)} (h : GraphN w base v N E W) : GraphR w v N E W := by
  obtain ⟨pe, ne, ce, pw, nw, cw, hs, h1, h2, h3, h4, h5, _⟩ := h
  exact ⟨pe, ne, ce, pw, nw, cw, hs, h1, h2, h3, h4, h5⟩
theorem GraphN.set {w : World} {base : Nat} {v : Value} {N : Int} {E : List (Int × Int)} {W : List (List ByteArray)} (h : GraphN w base v N E W) {b : Nat} (hb : b < base) (i : Nat) (u : Value) : GraphN (w.setCell ⟨b, i, none⟩ u) base v N E W := by
  obtain ⟨pe, ne, ce, pw, nw, cw, hs, h1, h2, h3, h4, h5, f1, f2, f3⟩ := h
  exact ⟨pe, ne, ce, pw, nw, cw, hs, h1, h2.set_ (fun h => by have := f1 h; omega) i u, h3, ⟨h4.hn, h4.row.set_ (fun h => by have := f2 h; omega) i u, fun j hj => (h4.each j hj).set_ (fun h => by have := f3 j hj h; omega) i u⟩, h5, f1, f2, f3⟩
theorem GraphN.mono {w : World} {base b : Nat} {v : Value} {N : Int} {E : List (Int × Int)} {W : List (List ByteArray)} (h : GraphN w base v N E W) (hb : b ≤ base) : GraphN w b v N E W := by
  obtain ⟨pe, ne, ce, pw, nw, cw, hs, h1, h2, h3, h4, h5, f1, f2, f3⟩ := h
  exact ⟨pe, ne, ce, pw, nw, cw, hs, h1, h2, h3, h4, h5, fun h => Nat.le_trans hb (f1 h), fun h => Nat.le_trans hb (f2 h), fun j hj h => Nat.le_trans hb (f3 j hj h)⟩
theorem GraphN.nil (w : World) (base : Nat) : GraphN w base (.agg #[.int .i64 0, .slice none 0 0, .slice none 0 0]) 0 [] [] :=
  ⟨none, 0, 0, none, 0, 0, [], rfl, Rd.nil _ _ _, Nat.le_refl _, ⟨rfl, Rd.nil _ _ _, fun j hj => by omega⟩, Nat.le_refl _, fun h => by omega, fun h => by omega, fun j hj => by omega⟩
end Go.Proofs.YtkekibnhmfmhmaaGreat
/- The reference's Turned and Degrees. -/
namespace Go.Proofs.YtkekibnhmfmhmaaGreat
open Go Go.RowKit
def swapE (x : Int × Int) : Int × Int := (x.2, x.1)
theorem encE_snoc (l : List (Int × Int)) (x : Int × Int) : encE (l ++ [x]) = encE l ++ encE [x] := by simp [encE]
end Go.Proofs.YtkekibnhmfmhmaaGreat
/- Plain laws of chapter 2: what is normal is normal again; turned twice. -/
namespace Go.Proofs.YtkekibnhmfmhmaaGreat
open Go Go.RowKit
theorem rise_iff {α : Type} [Inhabited α] {lt : α → α → Bool} (h : STO lt) (l : List α) : riseB lt l = true ↔ Rises lt l := by
  constructor
  · intro hr
    unfold riseB at hr
    rw [List.all_eq_true] at hr
    have step : ∀ i, i + 1 < l.length → lt (nth l i) (nth l (i + 1)) = true := fun i hi => hr i (List.mem_range.2 (by omega))
    have key : ∀ d i, i + d + 1 < l.length → lt (nth l i) (nth l (i + d + 1)) = true := by
      intro d
      induction d with
      | zero => intro i hi; exact step i hi
      | succ d ih => intro i hi; exact h.trans _ _ _ (ih i (by omega)) (step (i + d + 1) (by omega))
    unfold Rises
    rw [List.pairwise_iff_getElem]
    intro i j hi hj hij
    have := key (j - i - 1) i (by omega)
    rw [show i + (j - i - 1) + 1 = j from by omega, nth_eq hi, nth_eq hj] at this
    exact this
  · intro hr
    unfold riseB
    rw [List.all_eq_true]
    intro i hi
    have hi2 := List.mem_range.1 hi
    unfold Rises at hr
    rw [List.pairwise_iff_getElem] at hr
    unfold riseAt
    rw [nth_eq (by omega), nth_eq (by omega)]
    exact hr i (i + 1) (by omega) (by omega) (by omega)
theorem putAll_eq_iff {α : Type} [DecidableEq α] {lt : α → α → Bool} (h : STO lt) (l : List α) : putAll lt l = l ↔ Rises lt l := by
  constructor
  · intro e; rw [← e]; exact putAll_rises h l
  · intro hr; exact rises_uniq h _ _ (putAll_rises h l) hr fun x => putAll_mem h l x
theorem putAll_idem {α : Type} [DecidableEq α] {lt : α → α → Bool} (h : STO lt) (l : List α) : putAll lt (putAll lt l) = putAll lt l := (putAll_eq_iff h _).2 (putAll_rises h l)
theorem riseB_putAll {α : Type} [DecidableEq α] [Inhabited α] {lt : α → α → Bool} (h : STO lt) (l : List α) : riseB lt (putAll lt l) = true := (rise_iff h _).2 (putAll_rises h l)
theorem edgeOk_swap (N : Int) (x : Int × Int) : edgeOk N (swapE x) = edgeOk N x := by
  unfold edgeOk swapE
  rw [Bool.eq_iff_iff]; simp; omega
theorem rowOk_putAll {l : List ByteArray} (h : rowOk l = true) : rowOk (putAll sLess l) = true := by
  unfold rowOk at h ⊢
  simp only [Bool.and_eq_true, List.all_eq_true, decide_eq_true_eq] at h ⊢
  exact ⟨fun x hx => h.1 x ((putAll_mem stoS l x).1 hx), Nat.le_trans (putAll_len sLess l) h.2⟩
theorem rowsOk_map {W : List (List ByteArray)} (h : W.all rowOk = true) : (W.map (putAll sLess)).all rowOk = true := by
  rw [List.all_eq_true] at h ⊢
  intro l hl
  obtain ⟨l', hl', rfl⟩ := List.mem_map.1 hl
  exact rowOk_putAll (h l' hl')
/-- a normal graph's check -/
theorem check_norm {N : Int} {E F : List (Int × Int)} {W : List (List ByteArray)} (h : checkB N E W = true) (hl : F.length ≤ 2000) (hF : ∀ x ∈ F, edgeOk N x = true) : checkB N F (W.map (putAll sLess)) = true := by
  obtain ⟨h1, h2, h3, h4, h5, h6⟩ := checkB_parts h
  exact checkB_yes h1 h2 hl (by rw [List.length_map]; exact h4) (List.all_eq_true.2 hF) (rowsOk_map h6)
theorem check_swap {N : Int} {E : List (Int × Int)} {W : List (List ByteArray)} : checkB N (E.map swapE) W = checkB N E W := by
  have : (E.map swapE).all (edgeOk N) = E.all (edgeOk N) := by
    rw [Bool.eq_iff_iff, List.all_eq_true, List.all_eq_true]
    constructor
    · intro h x hx; rw [← edgeOk_swap]; exact h _ (List.mem_map_of_mem hx)
    · intro h x hx; obtain ⟨y, hy, rfl⟩ := List.mem_map.1 hx; rw [edgeOk_swap]; exact h y hy
  unfold checkB
  rw [this, List.length_map]
theorem swapE_swapE (x : Int × Int) : swapE (swapE x) = x := rfl
theorem map_putAll_idem (W : List (List ByteArray)) : (W.map (putAll sLess)).map (putAll sLess) = W.map (putAll sLess) := by
  rw [List.map_map]
  exact List.map_congr_left fun l _ => putAll_idem stoS l
/-- turned twice -/
theorem putAll_turn2 (E : List (Int × Int)) : putAll lessE ((putAll lessE (E.map swapE)).map swapE) = putAll lessE E := by
  refine rises_uniq stoE _ _ (putAll_rises stoE _) (putAll_rises stoE _) fun x => ?_
  rw [putAll_mem stoE, putAll_mem stoE]
  constructor
  · intro h
    obtain ⟨y, hy, rfl⟩ := List.mem_map.1 h
    rw [putAll_mem stoE] at hy
    obtain ⟨z, hz, rfl⟩ := List.mem_map.1 hy
    exact hz
  · intro h
    exact List.mem_map.2 ⟨swapE x, (putAll_mem stoE _ _).2 (List.mem_map_of_mem h), rfl⟩
theorem is_norm {N : Int} {E F : List (Int × Int)} {W : List (List ByteArray)} (h : checkB N E W = true) (hl : F.length ≤ 2000) (hF : ∀ x ∈ F, edgeOk N x = true) (hr : riseB lessE F = true) : isB N F (W.map (putAll sLess)) = true := by
  unfold isB
  rw [check_norm h hl hF, hr]
  simp only [Bool.and_self, Bool.true_and, List.all_eq_true]
  intro l hl
  obtain ⟨l', _, rfl⟩ := List.mem_map.1 hl
  exact riseB_putAll stoS l'
/-- a graph is normal just if it is the one that Normal makes -/
theorem is_same {N : Int} {E : List (Int × Int)} {W : List (List ByteArray)} (h : checkB N E W = true) : isB N E W = sameB N (putAll lessE E) (W.map (putAll sLess)) N E W := by
  unfold isB sameB
  rw [h, Bool.true_and, Bool.eq_iff_iff, Bool.and_eq_true, decide_eq_true_eq, rise_iff stoE, putAll_eq_iff stoE]
  simp only [true_and]
  refine and_congr_right fun _ => ?_
  rw [List.all_eq_true]
  constructor
  · intro hr
    conv => rhs; rw [← List.map_id W]
    exact List.map_congr_left fun l hl => (putAll_eq_iff stoS l).2 ((rise_iff stoS l).1 (hr l hl))
  · intro e l hl
    rw [rise_iff stoS, ← putAll_eq_iff stoS]
    have h2 : ∀ l ∈ W, putAll sLess l = id l := List.map_inj_left.1 (e.trans (List.map_id W).symm)
    exact h2 l hl
theorem szW_map {W : List (List ByteArray)} (h : SzW W) : SzW (W.map (putAll sLess)) := by
  intro l hl s hs
  obtain ⟨l', hl', rfl⟩ := List.mem_map.1 hl
  exact h l' hl' s ((putAll_mem stoS l' s).1 hs)
/-- all that the law GraphTwice asks of a graph that may be -/
structure TwiceF (N : Int) (E : List (Int × Int)) (W : List (List ByteArray)) (A C : List (Int × Int)) (V : List (List ByteArray)) : Prop where
  n1 : normN N E W = N ∧ normE N E W = A ∧ normW N E W = V ∧ normC N E W = 0
  n2 : normN N A V = N ∧ normE N A V = A ∧ normW N A V = V ∧ normC N A V = 0
  n3 : normN N (E.map swapE) W = N ∧ normE N (E.map swapE) W = C ∧ normW N (E.map swapE) W = V ∧ normC N (E.map swapE) W = 0
  n4 : normN N (C.map swapE) V = N ∧ normE N (C.map swapE) V = A ∧ normW N (C.map swapE) V = V ∧ normC N (C.map swapE) V = 0
  i1 : isB N A V = true
  i2 : isB N C V = true
  i3 : isB N E W = sameB N A V N E W
  lA : A.length ≤ 2000
  lC : C.length ≤ 2000
  lV : V.length ≤ 200
  lV2 : ∀ l ∈ V, l.length ≤ 8
theorem norm_of {N : Int} {E A : List (Int × Int)} {W V : List (List ByteArray)} (hc : checkB N E W = true) (hA : putAll lessE E = A) (hV : W.map (putAll sLess) = V) : normN N E W = N ∧ normE N E W = A ∧ normW N E W = V ∧ normC N E W = 0 := by
  unfold normN normE normW normC
  rw [hc, hA, hV]
  exact ⟨rfl, rfl, rfl, rfl⟩
theorem twice_facts {N : Int} {E : List (Int × Int)} {W : List (List ByteArray)} (hc : checkB N E W = true) : TwiceF N E W (putAll lessE E) (putAll lessE (E.map swapE)) (W.map (putAll sLess)) := by
  obtain ⟨h1, h2, h3, h4, h5, h6⟩ := checkB_parts hc
  have hA : ∀ x ∈ putAll lessE E, edgeOk N x = true := fun x hx => List.all_eq_true.1 h5 x ((putAll_mem stoE E x).1 hx)
  have lA : (putAll lessE E).length ≤ 2000 := Nat.le_trans (putAll_len lessE E) h3
  have hcs : checkB N (E.map swapE) W = true := by rw [check_swap]; exact hc
  have hC : ∀ x ∈ putAll lessE (E.map swapE), edgeOk N x = true := fun x hx => List.all_eq_true.1 (checkB_parts hcs).2.2.2.2.1 x ((putAll_mem stoE _ x).1 hx)
  have lC : (putAll lessE (E.map swapE)).length ≤ 2000 := Nat.le_trans (putAll_len lessE _) (by rw [List.length_map]; exact h3)
  refine ⟨norm_of hc rfl rfl, norm_of (check_norm hc lA hA) (putAll_idem stoE _) (map_putAll_idem W), norm_of hcs rfl rfl, norm_of (by rw [check_swap]; exact check_norm hc lC hC) (putAll_turn2 E) (map_putAll_idem W), is_norm hc lA hA (riseB_putAll stoE _), is_norm hc lC hC (riseB_putAll stoE _), is_same hc, lA, lC, by rw [List.length_map]; omega, ?_⟩
  intro l hl
  obtain ⟨l', hl', rfl⟩ := List.mem_map.1 hl
  exact Nat.le_trans (putAll_len sLess l') (rowOk_len h6 l' hl')
end Go.Proofs.YtkekibnhmfmhmaaGreat
/- The program's found, by meet: the closures, and all that they make. (FndB: by join; made of this text by gen2.py.) -/
namespace Go.Proofs.YtkekibnhmfmhmaaGreat
open Go Go.RowKit Go.Maps
theorem methAll (a : Nat) (w : World) : Calls Tryz.prog 75 #[.map (some a)] w fun e w' => e = .returned (.func (.func 76) #[.map (some a)] #[]) ∧ Ext w w' := by
  go_enter Tryz.func75, Tryz.ntmps75
  go_wp2
  go_ret
  exact ⟨rfl, Below.refl _ _⟩
/-- what the free operations of the closure's region tell -/
def CloAll (w : World) (L : List Po) (s : ByteArray) (S : Int → Prop) (a n : Nat) (i : Nat) (v : Value) (W : World) : Prop :=
  match i with
  | 2 => v = .func (.func 76) #[.map (some a)] #[]
  | 5 => ∃ q c, v = .slice q (findL L s).length c ∧ Rd W 1 q (findL L s).length (encI (findL L s))
  | 6 => ∃ b f, v = .map (some b) ∧ MapI Tryz.prog 3 EB b 1000 f W ∧ ∀ x, f x = some true ↔ x ∈ findL L s
  | 7 => ∃ b f, v = .map (some b) ∧ w.heap.size ≤ b ∧ MapI Tryz.prog 3 EB b (n + 1000) f W ∧ ∀ x, f x = some true ↔ (S x ∧ x ∈ findL L s)
  | _ => True
theorem CloAll_mono {w : World} {L : List Po} {s : ByteArray} {S : Int → Prop} {a n : Nat} : ∀ i v W W', Ext W W' → CloAll w L s S a n i v W → CloAll w L s S a n i v W' := by
  intro i v W W' he h
  unfold CloAll at *
  split at h
  · exact h
  · obtain ⟨q, c, h1, h2⟩ := h; exact ⟨q, c, h1, h2.ext he⟩
  · obtain ⟨b, f, h1, h2, h3⟩ := h; exact ⟨b, f, h1, h2.ext he, h3⟩
  · obtain ⟨b, f, h1, h0, h2, h3⟩ := h; exact ⟨b, f, h1, h0, h2.ext he, h3⟩
  · trivial
set_option maxRecDepth 100000 in
set_option maxHeartbeats 1000000 in
theorem closAll (a n : Nat) (f : Int → Option Bool) (S : Int → Prop) (s : ByteArray) (b5 b3 : Nat) (p : Option Addr) (np cp : Nat) (hs : List Hd) (L : List Po) (w : World) (hA : MapI Tryz.prog 3 EB a n f w) (hf : ∀ x, f x = some true ↔ S x)
    (h5 : w.cell? ⟨b5, 0, none⟩ = some (.func (.func 75) #[] #[])) (h3 : w.cell? ⟨b3, 0, none⟩ = some (.slice p np cp)) (hL : RdP w p np hs L) (hok : PoOk L) (hn : n ≤ 500000) :
    Calls Tryz.prog 108 #[.map (some a), .string s, .pointer (some ⟨b5, 0, none⟩), .pointer (some ⟨b3, 0, none⟩)] w fun e w' => ∃ c h, e = .returned (.map (some c)) ∧ Sep w w' [.map Tryz.prog 3 EB c (n + 1000) h] ∧ ∀ x, h x = some true ↔ (S x ∧ x ∈ findL L s) := by
  have HFO := Lib.hid (findL_ok hok s)
  have HA := Lib.hid hA; clear hA
  have HF := Lib.hid hf; clear hf
  have HL := Lib.hid hL; clear hL
  have HOK := Lib.hid hok; clear hok
  have x5 := fun x : ExtOf w => x.ext.cell h5
  have x3 := fun x : ExtOf w => x.ext.cell h3
  go_enter Tryz.func108, Tryz.ntmps108
  go_wp2
  refine wp_region_mix [true, true, false, true, true, false, false, false] (CloAll w L s S a n) (by kernel_rfl) (by kernel_rfl) (by kernel_rfl) CloAll_mono ?_
  simp only [nfM]
  repeat (go_big_quiet_step ((fail)))
  refine wpQuiet_nil ⟨⟨fun vs W hE hd => ?_, fun vs W hE hd => ?_, fun vs W hE hd => ?_, fun vs W hE hd => ?_, trivial⟩, fun vs W hE hkn => ?_⟩
  · simp [putM, execOp, go_sem]
    exact (methAll a W).mono fun e w' ⟨h1, h2⟩ => ⟨_, h1, rfl, h2⟩
  · simp [putM, go_sem]
    exact (FindG p np cp hs L s W (HL.out.ext hE) HOK.out).mono fun e w' ⟨q, c, h1, h2⟩ => ⟨_, h1, ⟨q, c, rfl, h2.rd 0 rfl (by have := HFO.out.1; omega)⟩, h2.ext⟩
  · obtain ⟨q, c, e1, e2⟩ := hd 5 (by decide) rfl
    simp [putM, go_sem, e1]
    exact (ofG q _ c (findL L s) W e2 HFO.out.2 (by have := HFO.out.1; omega)).mono fun e w' ⟨b, g, h1, h2, h3⟩ => ⟨_, h1, ⟨b, g, rfl, (h2.map 0 rfl).mono HFO.out.1, h3⟩, h2.ext⟩
  · have e0 : vs 2 = _ := hd 2 (by decide) rfl
    obtain ⟨b, g, e1, e2, e3⟩ := hd 6 (by decide) rfl
    simp [putM, execOp, go_sem, e0, e1]
    exact (meetG a b n 1000 f g W (HA.out.ext hE) e2 (by omega)).mono fun e w' ⟨c, h, h1, h2, h3⟩ => ⟨_, h1, ⟨c, h, rfl, Nat.le_trans hE.size (h2.new _ (List.mem_singleton.2 rfl) c rfl), (h2.map 0 rfl).mono (by omega), fun x => by rw [h3, HF.out, e3]⟩, h2.ext⟩
  · obtain ⟨_, ⟨_, _, k1, _⟩, ⟨_, _, k2, _⟩, ⟨c, h, k3, k4, k5, k6⟩, _⟩ := hkn
    have HK5 := Lib.hid k5
    have HK6 := Lib.hid k6
    have HE := Lib.hid hE
    have HK4 := Lib.hid k4
    simp only [putM, k3, List.length_cons, List.length_nil, Nat.zero_add, Nat.reduceAdd, List.drop_succ_cons, List.drop_zero]
    clear x5 x3 k1 k2 k3 k4 k5 k6 hE
    go_wp2
    go_ret
    exact ⟨c, h, rfl, ⟨HE.out, fun q hq => by rw [List.mem_singleton] at hq; subst hq; exact HK5.out, fun q hq i hi => by rw [List.mem_singleton] at hq; subst hq; have : i = c := hi; rw [this]; exact HK4.out, List.pairwise_singleton _ _⟩, HK6.out⟩
set_option maxHeartbeats 1000000 in
theorem foldAll (a n : Nat) (f : Int → Option Bool) (S : Int → Prop) (R : List ByteArray) (pr : Option Addr) (nr cr : Nat) (b5 b3 : Nat) (p : Option Addr) (np cp : Nat) (hs : List Hd) (L : List Po) (w : World) (hA : MapI Tryz.prog 3 EB a n f w) (hf : ∀ x, f x = some true ↔ S x)
    (hR : Rd w 1 pr nr (encS R)) (h5 : w.cell? ⟨b5, 0, none⟩ = some (.func (.func 75) #[] #[])) (h3 : w.cell? ⟨b3, 0, none⟩ = some (.slice p np cp)) (hL : RdP w p np hs L) (hok : PoOk L) (hn : n + 1000 * nr ≤ 400000) :
    Calls Tryz.prog 105 #[.map (some a), .slice pr nr cr, .func (.func 108) #[] #[.pointer (some ⟨b5, 0, none⟩), .pointer (some ⟨b3, 0, none⟩)]] w fun e w' => ∃ c h, e = .returned (.map (some c)) ∧ MapI Tryz.prog 3 EB c (n + 1000 * nr) h w' ∧ Ext w w' ∧ ∀ x, h x = some true ↔ (S x ∧ ∀ u ∈ R, x ∈ findL L u) := by
  have p1 := hR.ptr
  have n1 := hR.small
  have l1 := hR.nS
  have HA := Lib.hid hA; clear hA
  have HF := Lib.hid hf; clear hf
  have HL := Lib.hid hL; clear hL
  have HOK := Lib.hid hok; clear hok
  have HR := Lib.hid hR; clear hR
  have L1 := Lib.hid l1; clear l1
  have H5 := Lib.hid h5; clear h5
  have H3 := Lib.hid h3; clear h3
  go_enter Tryz.func105, Tryz.ntmps105
  go_wp2
  go_loopw [0, 8, 11] (fun v _ i wr => ∃ (k b : Nat) (g : Int → Option Bool), k ≤ nr ∧ i = .int .i64 k ∧ v = .map (some b) ∧ Ext w wr ∧ MapI Tryz.prog 3 EB b (n + 1000 * k) g wr ∧ ∀ x, g x = some true ↔ (S x ∧ ∀ u ∈ R.take k, x ∈ findL L u)) (fun _ _ i _ => nr - (intOf i).toNat)
  case atStart => exact ⟨0, a, f, Nat.zero_le _, rfl, rfl, Below.refl _ _, HA.out, fun x => by rw [HF.out]; simp⟩
  case round =>
    obtain ⟨k, b, g, hk, rfl, rfl, hE, hM, hg⟩ := hrel
    have HE := Lib.hid hE; clear hE
    have HM := Lib.hid hM; clear hM
    have HG := Lib.hid hg; clear hg
    by_cases hlt : k < nr
    · have g1 := HE.out.cell (HR.out.cS hlt)
      have d1 : (0:Int) ≤ k := by omega
      have d2 : (k:Int) < nr := by omega
      go_wp2_with (go_at_call 108; go_must (refine (closAll b (n + 1000 * k) g _ (nth R k) b5 b3 p np cp hs L _ HM.out HG.out (HE.out.cell H5.out) (HE.out.cell H3.out) (HL.out.ext HE.out) HOK.out (by omega)).mono ?_; rintro e w2 ⟨c, h, rfl, S1, hh⟩; have S2 := Lib.hid S1; have HH := Lib.hid hh; clear S1 hh))
      go_roundw
      case rel => exact ⟨k + 1, c, h, by omega, by go_num, rfl, Ext.trans HE.out S2.out.ext, (S2.out.map 0 rfl).mono (by omega), fun x => by
        rw [HH.out, take_succ_nth R k (by rw [← L1.out]; exact hlt)]
        constructor
        · rintro ⟨⟨h1, h2⟩, h3⟩
          refine ⟨h1, fun u hu => ?_⟩
          rcases List.mem_append.1 hu with h | h
          · exact h2 u h
          · rw [List.mem_singleton] at h; subst h; exact h3
        · rintro ⟨h1, h2⟩
          exact ⟨⟨h1, fun u hu => h2 u (List.mem_append_left _ hu)⟩, h2 _ (by simp)⟩⟩
      case measure => simp [intOf]; omega
    · obtain rfl : k = nr := by omega
      go_wp2
      go_ret
      exact ⟨b, g, rfl, HM.out, HE.out, fun x => by rw [HG.out, List.take_of_length_le (by rw [← L1.out]; omega)]⟩
/-- the places of all words -/
def allS (L : List Po) (ws : List ByteArray) : List Int := putAll ltI ((findL L (nth ws 0)).filter fun x => ws.all fun u => (findL L u).contains x)
theorem allS_mem {L : List Po} {ws : List ByteArray} {x : Int} (h : 0 < ws.length) : (x ∈ (findL L (nth ws 0)).filter fun x => ws.all fun u => (findL L u).contains x) ↔ (x ∈ findL L (nth ws 0) ∧ ∀ u ∈ ws.drop 1, x ∈ findL L u) := by
  rw [List.mem_filter, List.all_eq_true]
  constructor
  · rintro ⟨h1, h2⟩
    exact ⟨h1, fun u hu => by have := h2 u (List.mem_of_mem_drop hu); simpa using this⟩
  · rintro ⟨h1, h2⟩
    refine ⟨h1, fun u hu => ?_⟩
    rw [← List.take_append_drop 1 ws] at hu
    rcases List.mem_append.1 hu with hu | hu
    · have : u = nth ws 0 := by
        have e : ws.take 1 = [nth ws 0] := by rw [take_succ_nth ws 0 h]; simp
        rw [e] at hu; simpa using hu
      rw [this]; simpa using h1
    · simpa using h2 u hu
def FouAll (L : List Po) (ws : List ByteArray) (nr : Nat) (i : Nat) (v : Value) (W : World) : Prop :=
  match i with
  | 4 => ∃ q c, v = .slice q (findL L (nth ws 0)).length c ∧ Rd W 1 q (findL L (nth ws 0)).length (encI (findL L (nth ws 0)))
  | 5 => ∃ b f, v = .map (some b) ∧ MapI Tryz.prog 3 EB b 1000 f W ∧ ∀ x, f x = some true ↔ x ∈ findL L (nth ws 0)
  | 9 => ∃ b f, v = .map (some b) ∧ MapI Tryz.prog 3 EB b (1000 + 1000 * nr) f W ∧ ∀ x, f x = some true ↔ (x ∈ findL L (nth ws 0) ∧ ∀ u ∈ ws.drop 1, x ∈ findL L u)
  | _ => True
theorem FouAll_mono {L : List Po} {ws : List ByteArray} {nr : Nat} : ∀ i v W W', Ext W W' → FouAll L ws nr i v W → FouAll L ws nr i v W' := by
  intro i v W W' he h
  unfold FouAll at *
  split at h
  · obtain ⟨q, c, h1, h2⟩ := h; exact ⟨q, c, h1, h2.ext he⟩
  · obtain ⟨b, f, h1, h2, h3⟩ := h; exact ⟨b, f, h1, h2.ext he, h3⟩
  · obtain ⟨b, f, h1, h2, h3⟩ := h; exact ⟨b, f, h1, h2.ext he, h3⟩
  · trivial
set_option maxRecDepth 100000 in
set_option maxHeartbeats 2000000 in
theorem foundAll (p : Option Addr) (np cp : Nat) (hs : List Hd) (L : List Po) (pr : Option Addr) (nr cr : Nat) (ws : List ByteArray) (w : World) (hL : RdP w p np hs L) (hok : PoOk L) (hR : Rd w 1 pr nr (encS ws)) (hcr : nr ≤ cr) (h0 : 0 < nr) (hn : nr ≤ 100) :
    Calls Tryz.prog 74 #[.slice p np cp, .slice pr nr cr, .func (.func 75) #[] #[]] w fun e w' => ∃ q c, e = .returned (.tuple #[.slice q (allS L ws).length c, .int .i64 0]) ∧ Sep w w' [.own 3 1 q (allS L ws).length c (encI (allS L ws))] := by
  obtain ⟨l0, hl0⟩ : ∃ l0, l0 = (findL L (nth ws 0)).filter fun x => ws.all fun u => (findL L u).contains x := ⟨_, rfl⟩
  have hal : allS L ws = putAll ltI l0 := by rw [hl0]; rfl
  rw [hal]
  have HMEM : Hid (∀ x, x ∈ l0 ↔ (x ∈ findL L (nth ws 0) ∧ ∀ u ∈ ws.drop 1, x ∈ findL L u)) := fun x => by rw [hl0]; exact allS_mem (by rw [← hR.nS]; exact h0)
  clear hal hl0
  have HFO := Lib.hid (findL_ok hok (nth ws 0))
  have p1 := hR.ptr
  have n1 := hR.small
  have g1 := hR.cS h0
  have HRC : Hid (Rd w 1 (cutp pr cr 1 1) (nr - 1) (encS (ws.drop 1))) := by
    have := hR.cut (l := 1) (h := nr) (by omega) (Nat.le_refl _) hcr
    rw [encS_drop, List.take_of_length_le (by rw [encS_len, List.length_drop, hR.nS]; omega)] at this
    exact this
  have L1 := Lib.hid hR.nS
  clear hR
  have HL := Lib.hid hL; clear hL
  have HOK := Lib.hid hok; clear hok
  have S0 := Lib.hid (((Sep.start w).al #[.slice p np cp] 25 w.heap.size rfl).al #[.func (.func 75) #[] #[]] 117 (w.heap.size + 1) (by simp))
  have hne : ((nr : Int) == 0) = false := by simp; omega
  have d1 : (1:Int) ≤ nr := by omega
  have d2 : (0:Int) < nr := by omega
  have d3 : (nr:Int) ≤ cr := by omega
  go_enter Tryz.func74, Tryz.ntmps74
  go_wp2
  obtain ⟨X, hX⟩ : ∃ X, X = ((w.alloc (.cells #[.slice p np cp] 25)).alloc (.cells #[.func (.func 75) #[] #[]] 117)) := ⟨_, rfl⟩
  have SX := S0.out
  rw [← hX] at SX ⊢
  have HX := Lib.hid SX.ext
  have c3 := (SX.blk 1 rfl).cell 0
  have c5 := (SX.blk 0 rfl).cell 0
  have g2 := HX.out.cell g1
  clear hX S0 g1 SX
  have H3 : Hid (X.cell? ⟨w.heap.size, 0, none⟩ = some (.slice p np cp)) := c3
  have H5 : Hid (X.cell? ⟨w.heap.size + 1, 0, none⟩ = some (.func (.func 75) #[] #[])) := c5
  have x3 := fun x : ExtOf X => x.ext.cell c3
  have x5 := fun x : ExtOf X => x.ext.cell c5
  have xg := fun x : ExtOf X => x.ext.cell g2
  refine wp_region_mix [true, true, true, true, false, false, true, true, true, false] (FouAll L ws nr) (by kernel_rfl) (by kernel_rfl) (by kernel_rfl) FouAll_mono ?_
  simp only [nfM]
  repeat (go_big_quiet_step ((fail)))
  refine wpQuiet_nil ⟨⟨fun vs W hE hd => ?_, fun vs W hE hd => ?_, fun vs W hE hd => ?_, trivial⟩, fun vs W hE hkn => ?_⟩
  · simp [putM, go_sem]
    exact (FindG p np cp hs L _ W ((HL.out.ext HX.out).ext hE) HOK.out).mono fun e w' ⟨q, c, h1, h2⟩ => ⟨_, h1, ⟨q, c, rfl, h2.rd 0 rfl (by have := HFO.out.1; omega)⟩, h2.ext⟩
  · obtain ⟨q, c, e1, e2⟩ := hd 4 (by decide) rfl
    simp [putM, go_sem, e1]
    exact (ofG q _ c _ W e2 HFO.out.2 (by have := HFO.out.1; omega)).mono fun e w' ⟨b, g, h1, h2, h3⟩ => ⟨_, h1, ⟨b, g, rfl, (h2.map 0 rfl).mono HFO.out.1, h3⟩, h2.ext⟩
  · obtain ⟨b, g, e1, e2, e3⟩ := hd 5 (by decide) rfl
    simp [putM, go_sem, e1]
    exact (foldAll b 1000 g _ (ws.drop 1) (cutp pr cr 1 1) (nr - 1) (cr - 1) (w.heap.size + 1) w.heap.size p np cp hs L W e2 e3 ((HRC.out.ext HX.out).ext hE) (hE.cell H5.out) (hE.cell H3.out) ((HL.out.ext HX.out).ext hE) HOK.out (by omega)).mono fun e w' ⟨c, h, h1, h2, h3, h4⟩ => ⟨_, h1, ⟨c, h, rfl, h2.mono (by omega), h4⟩, h3⟩
  · obtain ⟨⟨_, _, k1, _⟩, ⟨_, _, k2, _⟩, ⟨b, f, k3, k4, k5⟩, _⟩ := hkn
    have HK4 := Lib.hid k4
    have HE := Lib.hid (Ext.trans HX.out hE)
    have HK5 : Hid (∀ x, f x = some true ↔ x ∈ l0) := fun x => by rw [k5, HMEM.out]
    simp only [putM, k1, k2, k3, List.length_cons, List.length_nil, Nat.zero_add, Nat.reduceAdd, List.drop_succ_cons, List.drop_zero]
    clear x5 x3 xg k1 k2 k3 k4 k5 hE c3 c5 g2
    go_wp2_with (go_at_call 109; go_must (refine (risingG b _ f _ _ HK4.out HK5.out (by omega)).mono ?_; rintro e w2 ⟨q, c, rfl, S1⟩; have S2 := Lib.hid (((Sep.start w).call HE.out).comp S1); clear S1))
    go_ret2
    exact ⟨q, c, rfl, S2.out⟩
theorem foundAll0 (p : Option Addr) (np cp : Nat) (pr : Option Addr) (cr : Nat) (w : World) :
    Calls Tryz.prog 74 #[.slice p np cp, .slice pr 0 cr, .func (.func 75) #[] #[]] w fun e w' => e = .returned (.tuple #[.slice none 0 0, .int .i64 1]) ∧ Ext w w' := by
  go_enter Tryz.func74, Tryz.ntmps74
  go_wp2
  go_ret2
  exact ⟨rfl, Ext.alloc (Ext.alloc (Below.refl _ _) _) _⟩
end Go.Proofs.YtkekibnhmfmhmaaGreat
/- The program's found, by join: the closures, and all that they make. (Made of FndA by gen2.py.) -/
namespace Go.Proofs.YtkekibnhmfmhmaaGreat
open Go Go.RowKit Go.Maps
/-- the places of any word -/
def anyS (L : List Po) (ws : List ByteArray) : List Int := putAll ltI (ws.flatMap (findL L))
theorem anyS_mem {L : List Po} {ws : List ByteArray} {x : Int} (h : 0 < ws.length) : (x ∈ ws.flatMap (findL L)) ↔ (x ∈ findL L (nth ws 0) ∨ ∃ u ∈ ws.drop 1, x ∈ findL L u) := by
  have e : ws = nth ws 0 :: ws.drop 1 := by
    have := drop_nth ws 0 h
    rwa [List.drop_zero] at this
  conv => lhs; rw [e]
  rw [List.flatMap_cons, List.mem_append, List.mem_flatMap]
def FouAny (L : List Po) (ws : List ByteArray) (nr : Nat) (i : Nat) (v : Value) (W : World) : Prop :=
  match i with
  | 4 => ∃ q c, v = .slice q (findL L (nth ws 0)).length c ∧ Rd W 1 q (findL L (nth ws 0)).length (encI (findL L (nth ws 0)))
  | 5 => ∃ b f, v = .map (some b) ∧ MapI Tryz.prog 3 EB b 1000 f W ∧ ∀ x, f x = some true ↔ x ∈ findL L (nth ws 0)
  | 9 => ∃ b f, v = .map (some b) ∧ MapI Tryz.prog 3 EB b (1000 + 1000 * nr) f W ∧ ∀ x, f x = some true ↔ (x ∈ findL L (nth ws 0) ∨ ∃ u ∈ ws.drop 1, x ∈ findL L u)
  | _ => True
theorem FouAny_mono {L : List Po} {ws : List ByteArray} {nr : Nat} : ∀ i v W W', Ext W W' → FouAny L ws nr i v W → FouAny L ws nr i v W' := by
  intro i v W W' he h
  unfold FouAny at *
  split at h
  · obtain ⟨q, c, h1, h2⟩ := h; exact ⟨q, c, h1, h2.ext he⟩
  · obtain ⟨b, f, h1, h2, h3⟩ := h; exact ⟨b, f, h1, h2.ext he, h3⟩
  · obtain ⟨b, f, h1, h2, h3⟩ := h; exact ⟨b, f, h1, h2.ext he, h3⟩
  · trivial
end Go.Proofs.YtkekibnhmfmhmaaGreat
/- The reference's answers of chapter 5: In, Both, All, Any; Ints. -/
namespace Go.Proofs.YtkekibnhmfmhmaaGreat
open Go Go.RowKit Go.Maps
set_option maxHeartbeats 400000 in
theorem Ints01 (p q : Option Addr) (n m c d : Nat) (ss ts : List Int) (w : World) (hs : Rd w 1 p n (encI ss)) (ht : Rd w 1 q m (encI ts)) :
    Calls Tryz.prog 38 #[.slice p n c, .slice q m d] w fun e w' => e = .returned (.bool (decide (ss = ts))) ∧ Ext w w' := by
  have hp := hs.ptr
  have hq := ht.ptr
  have hn := hs.small
  have hm := ht.small
  have HS := Lib.hid hs; clear hs
  have HT := Lib.hid ht; clear ht
  have L1 := Lib.hid HS.out.nI
  have L2 := Lib.hid HT.out.nI
  by_cases hnm : n = m
  · subst hnm
    have hl := Lib.hid (L1.out.symm.trans L2.out)
    go_enter Tryz.func38, Tryz.ntmps38
    go_wp2
    go_loopw [5] (fun i wr => ∃ k : Nat, k ≤ n ∧ i = .int .i64 k ∧ ss.take k = ts.take k ∧ Ext w wr) (fun i _ => n - (intOf i).toNat)
    case atStart => exact ⟨0, Nat.zero_le _, rfl, rfl, Below.refl _ _⟩
    case round =>
      obtain ⟨k, hk, rfl, he, hb⟩ := hrel
      have HE := Lib.hid he; clear he
      have HB := Lib.hid hb; clear hb
      by_cases hlt : k < n
      · have g3 := HB.out.cell (HS.out.cI hlt)
        have g4 := HB.out.cell (HT.out.cI hlt)
        have d1 : (0:Int) ≤ k := by omega
        have d2 : (k:Int) < n := by omega
        by_cases hne : nth ss k = nth ts k
        · have hb1 : (nth ss k != nth ts k) = false := by simp [hne]
          have HN := Lib.hid hne; clear hne
          go_wp2
          go_quiet (fail)
          go_wp2
          go_roundw
          case rel => exact ⟨k + 1, by omega, by go_num, eq_step hl.out (by rw [← L1.out]; exact hlt) HE.out HN.out, HB.out.drewN _⟩
          case measure => simp [intOf]; omega
        · have hb1 : (nth ss k != nth ts k) = true := by simp [hne]
          have HN := Lib.hid hne; clear hne
          go_wp2
          go_quiet (fail)
          go_wp2
          go_ret
          exact ⟨ret_bool (by rw [decide_eq_false (eq_no hl.out (by rw [← L1.out]; exact hlt) HN.out)]), HB.out.drewN _⟩
      · go_wp2
        go_ret
        exact ⟨ret_bool (by rw [decide_eq_true (eq_end hl.out (by rw [← L1.out]; exact hlt) HE.out)]), HB.out⟩
  · have h1 : ((n : Int) != (m : Int)) = true := by rw [bne_iff_ne]; omega
    have hne : ss ≠ ts := by rintro rfl; exact hnm (L1.out.trans L2.out.symm)
    have HN := Lib.hid hne; clear hne hnm
    go_enter Tryz.func38, Tryz.ntmps38
    go_wp2
    go_ret
    exact ⟨ret_bool (by rw [decide_eq_false HN.out]), Below.refl _ _⟩
def inB (l : List Int) (x : Int) : Bool := l.any fun y => y == x
theorem inB_iff (l : List Int) (x : Int) : inB l x = true ↔ x ∈ l := by unfold inB; simp
theorem In05 (p : Option Addr) (n c : Nat) (l : List Int) (x : Int) (w : World) (hl : Rd w 1 p n (encI l)) :
    Calls Tryz.prog 42 #[.slice p n c, .int .i64 x] w fun e w' => e = .returned (.bool (inB l x)) ∧ w = w' := by
  have p1 := hl.ptr
  have n1 := hl.small
  have l1 := hl.nI
  have HL := Lib.hid hl; clear hl
  have L1 := Lib.hid l1; clear l1
  go_enter Tryz.func42, Tryz.ntmps42
  go_wp2
  go_loop [5] (fun i => ∃ k : Nat, k ≤ n ∧ i = .int .i64 k ∧ (l.take k).any (fun y => y == x) = false) (fun i => n - (intOf i).toNat)
  case atStart => exact ⟨0, Nat.zero_le _, rfl, rfl⟩
  case round =>
    obtain ⟨k, hk, rfl, ha⟩ := hrel
    have HA := Lib.hid ha; clear ha
    by_cases hlt : k < n
    · have g1 := HL.out.cI hlt
      have d1 : (0:Int) ≤ k := by omega
      have d2 : (k:Int) < n := by omega
      cases hq : (nth l k == x) with
      | true =>
        have HF := Lib.hid (any_true_at (fun y => y == x) l k (by rw [← L1.out]; exact hlt) hq)
        go_wp2
        go_ret
        exact ⟨ret_bool HF.out.symm, rfl⟩
      | false =>
        have HF := Lib.hid (any_step (fun y => y == x) l k (by rw [← L1.out]; exact hlt) HA.out hq)
        go_wp2
        go_round
        case rel => exact ⟨k + 1, by omega, by go_num, HF.out⟩
        case measure => simp [intOf]; omega
    · have HF := Lib.hid (any_end _ l k (by rw [← L1.out]; exact hlt) HA.out)
      go_wp2
      go_ret
      exact ⟨ret_bool HF.out.symm, rfl⟩
theorem Rising05s (p : Option Addr) (n c : Nat) (l : List Int) (w : World) (hl : Rd w 1 p n (encI l)) (hz : n ≤ 1000000) :
    Calls Tryz.prog 99 #[.slice p n c] w fun e w' => ∃ q c', e = .returned (.slice q (putAll ltI l).length c') ∧ Sep w w' [.own 3 1 q (putAll ltI l).length c' (encI (putAll ltI l))] :=
  (Rising05 p n c l w hl hz).mono fun _ _ ⟨q, n', c', he, hn, ho, hx⟩ => by subst hn; exact ⟨q, c', he, Sep.of_own hx ho⟩
def bothS (a b : List Int) : List Int := putAll ltI (a.filter (inB b))
theorem filter_take_succ {α : Type} [Inhabited α] (f : α → Bool) (l : List α) (k : Nat) (h : k < l.length) : (l.take (k + 1)).filter f = (l.take k).filter f ++ (if f (nth l k) then [nth l k] else []) := by
  rw [take_succ_nth l k h, List.filter_append, List.filter_cons]; rfl
theorem filter_len_le {α : Type} (f : α → Bool) (l : List α) (k : Nat) : ((l.take k).filter f).length ≤ k := Nat.le_trans (List.length_filter_le _ _) (by rw [List.length_take]; omega)
set_option maxHeartbeats 400000 in
theorem Both05 (p : Option Addr) (n c : Nat) (a : List Int) (q : Option Addr) (m d : Nat) (b : List Int) (w : World) (ha : Rd w 1 p n (encI a)) (hb : Rd w 1 q m (encI b)) (hn : n ≤ 1000000) :
    Calls Tryz.prog 101 #[.slice p n c, .slice q m d] w fun e w' => ∃ q c', e = .returned (.slice q (bothS a b).length c') ∧ Sep w w' [.own 3 1 q (bothS a b).length c' (encI (bothS a b))] := by
  obtain ⟨i0, hi0, hz0, hz1, hz2⟩ := info_parts infI
  have p1 := ha.ptr
  have l1 := ha.nI
  have HA := Lib.hid ha; clear ha
  have HB := Lib.hid hb; clear hb
  have L1 := Lib.hid l1; clear l1
  have S0 := Lib.hid ((Sep.start w).nilrow 3 1)
  go_enter Tryz.func101, Tryz.ntmps101
  go_wp2
  go_loopw [5, 6] (fun v i wr => ∃ (k : Nat) (u : Option Addr) (e : Nat), k ≤ n ∧ i = .int .i64 k ∧ v = .slice u ((a.take k).filter (inB b)).length e ∧ Sep w wr [.own 3 1 u ((a.take k).filter (inB b)).length e (encI ((a.take k).filter (inB b)))]) (fun _ i _ => n - (intOf i).toNat)
  case atStart => exact ⟨0, none, 0, Nat.zero_le _, rfl, rfl, S0.out⟩
  case round =>
    clear S0
    obtain ⟨k, u, e, hk, rfl, rfl, S⟩ := hrel
    have hfl := filter_len_le (inB b) a k
    by_cases hlt : k < n
    · have g1 := S.ext.cell (HA.out.cI hlt)
      have SH := Lib.hid S; clear S
      have d1 : (0:Int) ≤ k := by omega
      have d2 : (k:Int) < n := by omega
      have HT := Lib.hid (filter_take_succ (inB b) a k (by rw [← L1.out]; exact hlt))
      have HI := Lib.hid (fun W1 (h : Ext w W1) => In05 q m d b (nth a k) W1 (HB.out.ext h))
      cases hq : inB b (nth a k) with
      | true =>
        rw [hq] at HI HT
        clear hq
        go_wp2_with (first
          | (go_at_call 42; go_must (refine (HI.out _ SH.out.ext).mono ?_; rintro e1 w1 ⟨rfl, rfl⟩))
          | (at_builtin; go_must (refine wpList_append_sep rfl _ _ _ rfl 3 i0 _ 1 8 Tryz.underlying39 hi0 hz0 hz1 hz2 rfl (by omega) (SH.out.junk _) 0 u _ e _ rfl rfl _ 1 1 _ rfl (Rd.oneI _ _ _) (one_encI _) (by omega) (by omega) ?_; intro u' e' w2 S' hsz; have S3 := Lib.hid S'; clear S' hsz)))
        go_roundw
        case rel => exact ⟨k + 1, u', e', by omega, by go_num, by rw [HT.out]; simp, by rw [HT.out]; simp only [if_true, List.length_append, encI_append]; exact S3.out⟩
        case measure => simp [intOf]; omega
      | false =>
        rw [hq] at HI HT
        clear hq
        go_wp2_with (go_at_call 42; go_must (refine (HI.out _ SH.out.ext).mono ?_; rintro e1 w1 ⟨rfl, rfl⟩))
        go_roundw
        case rel => exact ⟨k + 1, u, e, by omega, by go_num, by rw [HT.out]; simp, by rw [HT.out]; simpa using SH.out⟩
        case measure => simp [intOf]; omega
    · obtain rfl : k = n := by omega
      have HT : Hid ((a.take k).filter (inB b) = a.filter (inB b)) := by unfold Hid; rw [List.take_of_length_le (by rw [← L1.out]; omega)]
      have hrd := S.rd 0 rfl (by omega)
      rw [HT.out] at hrd
      rw [HT.out] at hfl
      have RD := Lib.hid hrd; clear hrd
      have SH := Lib.hid S; clear S
      obtain ⟨F, hF⟩ : ∃ F, F = a.filter (inB b) := ⟨_, rfl⟩
      have HBS : Hid (bothS a b = putAll ltI F) := by unfold Hid; rw [hF]; rfl
      rw [HT.out, ← hF]
      rw [← hF] at RD hfl
      clear hF HT
      go_wp2_with (go_at_call 99; go_must (refine (Rising05s u F.length e F _ RD.out (by omega)).mono ?_; rintro e1 w1 ⟨q', c', rfl, S1⟩; have S2 := Lib.hid ((SH.out.pick [] (by decide) rfl : Sep w _ []).comp S1); clear S1))
      go_ret
      rw [HBS.out]
      exact ⟨q', c', rfl, S2.out⟩
end Go.Proofs.YtkekibnhmfmhmaaGreat
/- Rows: what the chapter says of offsets and numbers. No program in sight. -/
namespace Go.Proofs.YtkekibnhmfmhmaaGreat
open Go Go.RowKit
theorem nth_mem {α : Type} [Inhabited α] {l : List α} {k : Nat} (h : k < l.length) : nth l k ∈ l := by rw [nth_eq h]; exact List.getElem_mem _
theorem rises_nth {l : List Int} (h : Rises ltI l) {k : Nat} (hk : k + 1 < l.length) : nth l k < nth l (k + 1) := by
  rw [nth_eq (by omega), nth_eq hk]
  have := List.pairwise_iff_getElem.1 h k (k + 1) (by omega) hk (by omega)
  simpa [ltI] using this
/-- a place's row -/
def rowL (O T : List Int) (v : Nat) : List Int := (T.drop (nth O v).toNat).take ((nth O (v + 1)).toNat - (nth O v).toNat)
def rowX (O T : List Int) (v : Nat) : List (Int × Int) := (rowL O T v).map fun x => ((v : Int), x)
/-- the pairs of the first k places -/
def pairsK (O T : List Int) (k : Nat) : List (Int × Int) := (List.range k).flatMap (rowX O T)
def pairs (O T : List Int) : List (Int × Int) := pairsK O T (O.length - 1)
theorem pairsK_step (O T : List Int) (k : Nat) : pairsK O T (k + 1) = pairsK O T k ++ rowX O T k := by
  unfold pairsK; rw [List.range_succ, List.flatMap_append]; simp
/-- offsets that can be gone through -/
structure OffOk (O T : List Int) : Prop where
  two : 2 ≤ O.length
  lo : ∀ v, v < O.length → 0 ≤ nth O v
  hi : ∀ v, v < O.length → nth O v ≤ T.length
  le : ∀ v, v + 1 < O.length → nth O v ≤ nth O (v + 1)
theorem rowL_len {O T : List Int} (h : OffOk O T) {v : Nat} (hv : v + 1 < O.length) : (rowL O T v).length = (nth O (v + 1)).toNat - (nth O v).toNat := by
  have h1 := h.hi (v + 1) hv
  unfold rowL
  rw [List.length_take, List.length_drop]
  omega
theorem rowL_nth {O T : List Int} {v j : Nat} (hj : j < (rowL O T v).length) : nth (rowL O T v) j = nth T ((nth O v).toNat + j) := by
  have hl : (nth O v).toNat + j < T.length := by unfold rowL at hj; rw [List.length_take, List.length_drop] at hj; omega
  rw [nth_eq hj, nth_eq hl]
  simp only [rowL, List.getElem_take, List.getElem_drop]
/-- numbers of a row rise, each of 0 to n-1 -/
def okRow (n : Int) (l : List Int) : Bool := (List.range l.length).all (okAt n l)
theorem okRow_iff {n : Int} {l : List Int} : okRow n l = true ↔ (∀ x ∈ l, 0 ≤ x ∧ x < n) ∧ Rises ltI l := by
  unfold okRow
  rw [List.all_eq_true]
  constructor
  · intro h
    have h1 : ∀ i, i < l.length → okAt n l i = true := fun i hi => h i (List.mem_range.2 hi)
    refine ⟨fun x hx => ?_, ?_⟩
    · obtain ⟨i, hi, rfl⟩ := List.mem_iff_getElem.1 hx
      have := h1 i hi
      unfold okAt at this
      rw [nth_eq hi] at this
      simp only [Bool.and_eq_true, decide_eq_true_eq] at this
      exact this.1
    · rw [← rise_iff stoI]
      unfold riseB
      rw [List.all_eq_true]
      intro i hi
      rw [List.mem_range] at hi
      have := h1 (i + 1) (by omega)
      unfold okAt at this
      unfold riseAt ltI
      simp at this ⊢
      exact this.2
  · rintro ⟨h1, h2⟩ i hi
    rw [List.mem_range] at hi
    have h3 := h1 _ (nth_mem hi)
    unfold okAt
    rw [decide_eq_true h3.1, decide_eq_true h3.2]
    rcases Nat.eq_zero_or_pos i with h4 | h4
    · simp [h4]
    · have := rises_nth h2 (k := i - 1) (by omega)
      rw [show i - 1 + 1 = i by omega] at this
      simp [this]
def sortB (O : List Int) : Bool := (List.range (O.length - 1)).all fun v => decide (nth O v ≤ nth O (v + 1))
def offB (O T : List Int) : Bool := decide (2 ≤ O.length) && decide (O.length ≤ 201) && decide (T.length ≤ 2000) && decide (nth O 0 = 0) && decide (nth O (O.length - 1) = T.length) && sortB O
def halfB (O T : List Int) : Bool := offB O T && (List.range (O.length - 1)).all fun v => okRow ((O.length - 1 : Nat) : Int) (rowL O T v)
theorem sortB_at {O : List Int} (h : sortB O = true) {v : Nat} (hv : v + 1 < O.length) : nth O v ≤ nth O (v + 1) := by
  unfold sortB at h
  have := List.all_eq_true.1 h v (List.mem_range.2 (by omega))
  simpa using this
theorem sortB_le {O : List Int} (h : sortB O = true) : ∀ (d v : Nat), v + d < O.length → nth O v ≤ nth O (v + d)
  | 0, v, _ => Int.le_refl _
  | d + 1, v, hv => Int.le_trans (sortB_le h d v (by omega)) (sortB_at h (by omega))
theorem offB_parts {O T : List Int} (h : offB O T = true) : 2 ≤ O.length ∧ O.length ≤ 201 ∧ T.length ≤ 2000 ∧ nth O 0 = 0 ∧ nth O (O.length - 1) = T.length ∧ sortB O = true := by
  unfold offB at h
  simp only [Bool.and_eq_true, decide_eq_true_eq] at h
  obtain ⟨⟨⟨⟨⟨h1, h2⟩, h3⟩, h4⟩, h5⟩, h6⟩ := h
  exact ⟨h1, h2, h3, h4, h5, h6⟩
theorem offOk_of {O T : List Int} (h : offB O T = true) : OffOk O T := by
  obtain ⟨h1, h2, h3, h4, h5, h6⟩ := offB_parts h
  refine ⟨h1, fun v hv => ?_, fun v hv => ?_, fun v hv => sortB_at h6 hv⟩
  · have := sortB_le h6 v 0 (by omega)
    rw [h4, Nat.zero_add] at this; exact this
  · have := sortB_le h6 (O.length - 1 - v) v (by omega)
    rw [show v + (O.length - 1 - v) = O.length - 1 by omega, h5] at this; exact this
/-- are rows right? -/
def checkR (O T R V : List Int) : Bool :=
  decide (O.length = R.length) && decide (T.length = V.length) && halfB O T && halfB R V && (pairs O T).all fun x => inB (rowL R V x.2.toNat) x.1
/-! ### one number behind the other -/
def okStep (n : Int) (p x : Int × Int) : Bool := decide (0 ≤ x.2) && decide (x.2 < n) && !(decide (x.1 = p.1) && decide (x.2 ≤ p.2))
def okFrom (n : Int) : Int × Int → List (Int × Int) → Bool
  | _, [] => true
  | p, x :: l => okStep n p x && okFrom n x l
def lastP : Int × Int → List (Int × Int) → Int × Int
  | p, [] => p
  | _, x :: l => lastP x l
theorem lastP_append (p : Int × Int) : ∀ (l m : List (Int × Int)), lastP p (l ++ m) = lastP (lastP p l) m
  | [], _ => rfl
  | x :: l, m => by rw [List.cons_append, lastP, lastP, lastP_append x l m]
  termination_by l => l.length
theorem okFrom_append (n : Int) : ∀ (l : List (Int × Int)) (p : Int × Int) (m : List (Int × Int)), okFrom n p (l ++ m) = (okFrom n p l && okFrom n (lastP p l) m)
  | [], p, m => by simp [okFrom, lastP]
  | x :: l, p, m => by rw [List.cons_append, okFrom, okFrom, okFrom_append n l x m, lastP, Bool.and_assoc]
theorem okFrom_snoc (n : Int) (p : Int × Int) (l : List (Int × Int)) (x : Int × Int) : okFrom n p (l ++ [x]) = (okFrom n p l && okStep n (lastP p l) x) := by
  rw [okFrom_append]; simp [okFrom]
theorem lastP_snoc (p : Int × Int) (l : List (Int × Int)) (x : Int × Int) : lastP p (l ++ [x]) = x := by rw [lastP_append]; rfl
theorem okFrom_no {n : Int} {p : Int × Int} {l m : List (Int × Int)} (h : okFrom n p l = false) (hp : l <+: m) : okFrom n p m = false := by
  obtain ⟨t, rfl⟩ := hp
  rw [okFrom_append, h]; rfl
/-- one row, behind a pair of its own place -/
theorem okFrom_same (n v : Int) : ∀ (l : List Int) (y : Int), okFrom n (v, y) (l.map fun x => (v, x)) = true ↔ (∀ x ∈ l, 0 ≤ x ∧ x < n) ∧ Rises ltI (y :: l)
  | [], y => by simp [okFrom, Rises]
  | x :: l, y => by
    rw [List.map_cons, okFrom, Bool.and_eq_true, okFrom_same n v l x]
    unfold okStep
    simp only [decide_true, Bool.true_and, Bool.and_eq_true, decide_eq_true_eq, Bool.not_eq_true', decide_eq_false_iff_not]
    constructor
    · rintro ⟨⟨⟨h1, h2⟩, h3⟩, h4, h5⟩
      refine ⟨fun z hz => ?_, ?_⟩
      · rcases List.mem_cons.1 hz with rfl | hz
        · exact ⟨h1, h2⟩
        · exact h4 z hz
      · refine List.pairwise_cons.2 ⟨fun z hz => ?_, h5⟩
        rcases List.mem_cons.1 hz with rfl | hz
        · simp [ltI]; omega
        · have := (List.pairwise_cons.1 h5).1 z hz
          simp [ltI] at this ⊢; omega
    · rintro ⟨h1, h2⟩
      obtain ⟨h3, h4⟩ := List.pairwise_cons.1 h2
      have := h3 x (by simp)
      simp [ltI] at this
      exact ⟨⟨h1 x (by simp), by omega⟩, fun z hz => h1 z (by simp [hz]), h4⟩
theorem okFrom_row {n v : Int} {p : Int × Int} (hp : p.1 ≠ v) (l : List Int) : okFrom n p (l.map fun x => (v, x)) = okRow n l := by
  rw [Bool.eq_iff_iff, okRow_iff]
  cases l with
  | nil => simp [okFrom, Rises]
  | cons x l =>
    rw [List.map_cons, okFrom, Bool.and_eq_true, okFrom_same n v l x]
    unfold okStep
    have hne : decide (v = p.1) = false := by simp; exact fun e => hp e.symm
    simp only [hne, Bool.false_and, Bool.not_false, Bool.and_true, Bool.and_eq_true, decide_eq_true_eq]
    constructor
    · rintro ⟨h1, h2, h3⟩
      exact ⟨fun z hz => (List.mem_cons.1 hz).elim (fun e => e ▸ h1) (h2 z), h3⟩
    · rintro ⟨h1, h2⟩
      exact ⟨h1 x (by simp), fun z hz => h1 z (by simp [hz]), h2⟩
theorem lastP_row (p : Int × Int) (v : Int) : ∀ l : List Int, (lastP p (l.map fun x => (v, x))).1 = if l = [] then p.1 else v
  | [] => rfl
  | x :: l => by
    rw [List.map_cons, lastP, lastP_row (v, x) v l]
    by_cases h : l = [] <;> simp [h]
theorem lastP_lt (O T : List Int) : ∀ k : Nat, (lastP (-1, 0) (pairsK O T k)).1 < k
  | 0 => by simp [pairsK, lastP]
  | k + 1 => by
    rw [pairsK_step, lastP_append]
    unfold rowX
    rw [lastP_row]
    have := lastP_lt O T k
    split <;> omega
/-- all pairs, one behind the other, are right just if each row is -/
theorem okFrom_pairs (n : Int) (O T : List Int) : ∀ k : Nat, okFrom n (-1, 0) (pairsK O T k) = (List.range k).all fun v => okRow n (rowL O T v)
  | 0 => rfl
  | k + 1 => by
    rw [pairsK_step, okFrom_append, okFrom_pairs n O T k, List.range_succ, List.all_append]
    congr 1
    unfold rowX
    rw [okFrom_row (by have := lastP_lt O T k; omega)]
    simp
theorem halfB_pairs {O T : List Int} (h : offB O T = true) : halfB O T = okFrom ((O.length - 1 : Nat) : Int) (-1, 0) (pairs O T) := by
  unfold halfB pairs
  rw [h, okFrom_pairs, Bool.true_and]
theorem rowL_I64 {O T : List Int} {v : Nat} (h : ∀ x ∈ T, I64 x) : ∀ x ∈ rowL O T v, I64 x := fun x hx => h x (List.mem_of_mem_drop (List.mem_of_mem_take hx))
theorem mem_pairs {O T : List Int} {x : Int × Int} : x ∈ pairs O T ↔ ∃ v, v < O.length - 1 ∧ x.1 = (v : Int) ∧ x.2 ∈ rowL O T v := by
  unfold pairs pairsK rowX
  simp only [List.mem_flatMap, List.mem_range, List.mem_map]
  constructor
  · rintro ⟨v, h1, y, h2, rfl⟩; exact ⟨v, h1, rfl, h2⟩
  · rintro ⟨v, h1, h2, h3⟩; exact ⟨v, h1, x.2, h3, by rw [← h2]⟩
end Go.Proofs.YtkekibnhmfmhmaaGreat
/- Heaps in rows, in plain Lean: up, down, the least first. -/
namespace Go.Proofs.YtkekibnhmfmhmaaGreat
open Go Go.RowKit
section
variable {α : Type} [Inhabited α] {lt : α → α → Bool}
/-- two places of a row, turned -/
def swapL (X : List α) (i j : Nat) : List α := (X.set i (nth X j)).set j (nth X i)
theorem swapL_len (X : List α) (i j : Nat) : (swapL X i j).length = X.length := by simp [swapL]
theorem nth_setg {X : List α} {i k : Nat} {a : α} (hk : k < X.length) : nth (X.set i a) k = if k = i then a else nth X k := by
  rw [nth_eq (by simpa using hk), List.getElem_set]
  by_cases h : i = k
  · rw [if_pos h, if_pos h.symm]
  · rw [if_neg h, if_neg (fun e => h e.symm), nth_eq hk]
theorem swapL_nth {X : List α} {i j k : Nat} (hk : k < X.length) : nth (swapL X i j) k = if k = j then nth X i else if k = i then nth X j else nth X k := by
  unfold swapL
  rw [nth_setg (by simpa using hk), nth_setg hk]
theorem set_perm {X : List α} : ∀ {i : Nat} {a : α}, i < X.length → (a :: X).Perm (nth X i :: X.set i a) := by
  induction X with
  | nil => intro i a h; cases h
  | cons b X ih =>
    intro i a h
    cases i with
    | zero => rw [nth_eq (by simp)]; exact List.Perm.swap _ _ _
    | succ i =>
      have h' : i < X.length := by simpa using h
      have e : nth (b :: X) (i + 1) = nth X i := by rw [nth_eq (by simpa using h), nth_eq h']; simp
      rw [e, List.set_cons_succ]
      exact (List.Perm.swap _ _ _).trans (((ih h').cons b).trans (List.Perm.swap _ _ _))
theorem swapL_perm {X : List α} {i j : Nat} (hi : i < X.length) (hj : j < X.length) : (swapL X i j).Perm X := by
  have h1 := set_perm (X := X) (i := i) (a := nth X j) hi
  have h2 := set_perm (X := X.set i (nth X j)) (i := j) (a := nth X i) (by simpa using hj)
  have e : nth (X.set i (nth X j)) j = nth X j := by
    rw [nth_eq (by simpa using hj), List.getElem_set]
    by_cases h : i = j
    · rw [if_pos h]
    · rw [if_neg h, nth_eq hj]
  rw [e] at h2
  exact ((h2.symm.trans h1.symm).cons_inv)
/-- the first n are a heap -/
def HeapN (lt : α → α → Bool) (n : Nat) (X : List α) : Prop := ∀ i, 0 < i → i < n → lt (nth X i) (nth X ((i - 1) / 2)) = false
/-- a heap, but for what stands at j, which may be too little -/
def UpH (lt : α → α → Bool) (n j : Nat) (X : List α) : Prop := (∀ i, 0 < i → i < n → i ≠ j → lt (nth X i) (nth X ((i - 1) / 2)) = false) ∧ ∀ i, 0 < i → i < n → (i - 1) / 2 = j → 0 < j → lt (nth X i) (nth X ((j - 1) / 2)) = false
/-- a heap, but for what stands at j, which may be too great -/
def DnH (lt : α → α → Bool) (n j : Nat) (X : List α) : Prop := (∀ i, 0 < i → i < n → (i - 1) / 2 ≠ j → lt (nth X i) (nth X ((i - 1) / 2)) = false) ∧ ∀ i, 0 < i → i < n → (i - 1) / 2 = j → 0 < j → lt (nth X i) (nth X ((j - 1) / 2)) = false
theorem up_start {n : Nat} {X : List α} (h : HeapN lt n X) : UpH lt (n + 1) n X :=
  ⟨fun i h0 h1 h2 => h i h0 (by omega), fun i h0 h1 h2 h3 => by omega⟩
theorem up_end {n j : Nat} {X : List α} (h : UpH lt n j X) (hj : j = 0 ∨ lt (nth X j) (nth X ((j - 1) / 2)) = false) : HeapN lt n X := fun i h0 h1 => by
  by_cases e : i = j
  · subst e
    rcases hj with h2 | h2
    · omega
    · exact h2
  · exact h.1 i h0 h1 e
omit [Inhabited α] in
theorem STO.le_trans (hs : STO lt) {a b c : α} (h1 : lt b a = false) (h2 : lt c b = false) : lt c a = false := by
  cases h : lt c a with
  | false => rfl
  | true => rw [hs.le_lt h2 h] at h1; cases h1
theorem up_step (hs : STO lt) {n j : Nat} {X : List α} (hn : n ≤ X.length) (hj : j < n) (h0 : 0 < j) (h : UpH lt n j X) (hl : lt (nth X j) (nth X ((j - 1) / 2)) = true) : UpH lt n ((j - 1) / 2) (swapL X j ((j - 1) / 2)) := by
  have hp : (j - 1) / 2 < j := by omega
  generalize hpp : (j - 1) / 2 = p at *
  have es : ∀ k, k < n → nth (swapL X j p) k = if k = p then nth X j else if k = j then nth X p else nth X k := fun k hk => swapL_nth (by omega)
  constructor
  · intro i hi1 hi2 hi3
    rw [es i hi2, es ((i - 1) / 2) (by omega), if_neg hi3]
    by_cases e : i = j
    · subst e
      rw [if_pos rfl, hpp, if_pos rfl]
      exact hs.asymm hl
    · rw [if_neg e]
      by_cases e1 : (i - 1) / 2 = p
      · rw [if_pos e1]
        have h2 := h.1 i hi1 hi2 e
        rw [e1] at h2
        exact hs.le_trans (hs.asymm hl) h2
      · rw [if_neg e1]
        by_cases e2 : (i - 1) / 2 = j
        · rw [if_pos e2]
          have := h.2 i hi1 hi2 e2 h0
          rw [hpp] at this; exact this
        · rw [if_neg e2]; exact h.1 i hi1 hi2 e
  · intro i hi1 hi2 hi3 hp0
    have hpp2 : (p - 1) / 2 ≠ p := by omega
    have hpp3 : (p - 1) / 2 ≠ j := by omega
    have hip : i ≠ p := by omega
    rw [es i hi2, es ((p - 1) / 2) (by omega), if_neg hip, if_neg hpp2, if_neg hpp3]
    have hpar := h.1 p hp0 (by omega) (by omega)
    by_cases e : i = j
    · rw [if_pos e]; exact hpar
    · rw [if_neg e]
      have h2 := h.1 i hi1 hi2 e
      rw [hi3] at h2
      exact hs.le_trans hpar h2
theorem dn_start {n : Nat} {X : List α} (hn : X.length = n + 1) (h : HeapN lt (n + 1) X) : DnH lt n 0 (swapL X 0 n) := by
  have es : ∀ k, k < n → 0 < k → nth (swapL X 0 n) k = nth X k := fun k hk h0 => by
    rw [swapL_nth (by omega), if_neg (by omega), if_neg (by omega)]
  exact ⟨fun i h0 h1 h2 => by rw [es i h1 h0, es _ (by omega) (by omega)]; exact h i h0 (by omega), fun i h0 h1 h2 h3 => by omega⟩
theorem dn_leaf {n j : Nat} {X : List α} (h : DnH lt n j X) (hj : n ≤ 2 * j + 1) : HeapN lt n X := fun i h0 h1 => h.1 i h0 h1 (by omega)
/-- c is the least child -/
def LeastC (lt : α → α → Bool) (n j c : Nat) (X : List α) : Prop := c < n ∧ 0 < c ∧ (c - 1) / 2 = j ∧ ∀ k, 0 < k → k < n → (k - 1) / 2 = j → lt (nth X k) (nth X c) = false
theorem least_one (hs : STO lt) {n j : Nat} {X : List α} (h : 2 * j + 1 < n) (h2 : n ≤ 2 * j + 2 ∨ lt (nth X (2 * j + 2)) (nth X (2 * j + 1)) = false) : LeastC lt n j (2 * j + 1) X :=
  ⟨h, by omega, by omega, fun k h0 h1 h3 => by
    have : k = 2 * j + 1 ∨ k = 2 * j + 2 := by omega
    rcases this with rfl | rfl
    · exact hs.irrefl _
    · rcases h2 with h2 | h2
      · omega
      · exact h2⟩
theorem least_two (hs : STO lt) {n j : Nat} {X : List α} (h : 2 * j + 2 < n) (h2 : lt (nth X (2 * j + 2)) (nth X (2 * j + 1)) = true) : LeastC lt n j (2 * j + 2) X :=
  ⟨h, by omega, by omega, fun k h0 h1 h3 => by
    have : k = 2 * j + 1 ∨ k = 2 * j + 2 := by omega
    rcases this with rfl | rfl
    · exact hs.asymm h2
    · exact hs.irrefl _⟩
theorem dn_end (hs : STO lt) {n j c : Nat} {X : List α} (h : DnH lt n j X) (hc : LeastC lt n j c X) (hl : lt (nth X c) (nth X j) = false) : HeapN lt n X := fun i h0 h1 => by
  by_cases e : (i - 1) / 2 = j
  · rw [e]; exact hs.le_trans hl (hc.2.2.2 i h0 h1 e)
  · exact h.1 i h0 h1 e
theorem dn_step (hs : STO lt) {n j c : Nat} {X : List α} (hn : n ≤ X.length) (h : DnH lt n j X) (hc : LeastC lt n j c X) (hl : lt (nth X c) (nth X j) = true) : DnH lt n c (swapL X j c) := by
  obtain ⟨c1, c2, c3, c4⟩ := hc
  have hjc : j < c := by omega
  have es : ∀ k, k < n → nth (swapL X j c) k = if k = c then nth X j else if k = j then nth X c else nth X k := fun k hk => swapL_nth (by omega)
  constructor
  · intro i hi1 hi2 hi3
    rw [es i hi2, es ((i - 1) / 2) (by omega), if_neg hi3]
    by_cases e : i = c
    · subst e
      rw [if_pos rfl, c3, if_pos rfl]
      exact hs.asymm hl
    · rw [if_neg e]
      by_cases e1 : i = j
      · subst e1
        rw [if_pos rfl, if_neg (by omega)]
        exact h.2 c c2 c1 c3 hi1
      · rw [if_neg e1]
        by_cases e2 : (i - 1) / 2 = j
        · rw [if_pos e2]; exact c4 i hi1 hi2 e2
        · rw [if_neg e2]; exact h.1 i hi1 hi2 e2
  · intro i hi1 hi2 hi3 _
    have h1 : i ≠ c := by omega
    have h2 : i ≠ j := by omega
    rw [es i hi2, c3, es j (by omega), if_neg h1, if_neg h2, if_neg (by omega), if_pos rfl]
    have := h.1 i hi1 hi2 (by omega)
    rw [hi3] at this; exact this
theorem heap_min (hs : STO lt) {n : Nat} {X : List α} (h : HeapN lt n X) : ∀ i, i < n → lt (nth X i) (nth X 0) = false := by
  intro i
  induction i using Nat.strongRecOn with
  | _ i ih =>
    intro hi
    by_cases h0 : i = 0
    · subst h0; exact hs.irrefl _
    · exact hs.le_trans (ih ((i - 1) / 2) (by omega) (by omega)) (h i (by omega) hi)
theorem heap_take {n : Nat} {X : List α} (h : HeapN lt n X) (hn : n ≤ X.length) : HeapN lt n (X.take n) := fun i h0 h1 => by
  have e : ∀ k, k < n → nth (X.take n) k = nth X k := fun k hk => by rw [nth_eq (by simp; omega), nth_eq (by omega)]; simp
  rw [e i h1, e _ (by omega)]; exact h i h0 h1
/-- what is taken off a heap: the least; the others -/
theorem pop_perm {n : Nat} {X Y : List α} {m : α} (hX : X.length = n + 1) (hp : Y.Perm X) (hm : nth Y n = m) : (m :: Y.take n).Perm X := by
  have hl : Y.length = n + 1 := by rw [hp.length_eq, hX]
  have e : Y = Y.take n ++ [m] := by
    have h1 := List.take_append_drop n Y
    have h2 : Y.drop n = [m] := by
      rw [← hm, nth_eq (by omega), List.drop_eq_getElem_cons (by omega), List.drop_of_length_le (by omega)]
    rw [h2] at h1; exact h1.symm
  refine List.Perm.trans ?_ hp
  conv => rhs; rw [e]
  exact (List.perm_append_singleton m _).symm
omit [Inhabited α] in
/-- taken off, one after the other, they rise -/
theorem pops_rise (hs : STO lt) {out rest all : List α} (hp : (out ++ rest).Perm all) (hn : all.Nodup) (h1 : Rises lt out) (h2 : ∀ a ∈ out, ∀ b ∈ rest, lt b a = false) {m : α} {rest' : List α} (hr : (m :: rest').Perm rest) (hm : ∀ b ∈ rest, lt b m = false) :
    ((out ++ [m]) ++ rest').Perm all ∧ Rises lt (out ++ [m]) ∧ ∀ a ∈ out ++ [m], ∀ b ∈ rest', lt b a = false := by
  have hp2 : ((out ++ [m]) ++ rest').Perm all := by
    rw [List.append_assoc]
    exact (hr.append_left out).trans hp
  have hnd : (out ++ rest).Nodup := hp.nodup_iff.2 hn
  have hmr : m ∈ rest := hr.mem_iff.1 (List.mem_cons_self ..)
  refine ⟨hp2, ?_, ?_⟩
  · rw [Rises, List.pairwise_append]
    refine ⟨h1, List.pairwise_singleton _ _, fun a ha b hb => ?_⟩
    obtain rfl := List.mem_singleton.1 hb
    cases h : lt a b with
    | true => rfl
    | false =>
      have e := hs.tri a b h (h2 a ha b hmr)
      subst e
      exact absurd rfl ((List.nodup_append.1 hnd).2.2 a ha a hmr)
  · intro a ha b hb
    have hbr : b ∈ rest := hr.mem_iff.1 (List.mem_cons_of_mem _ hb)
    rcases List.mem_append.1 ha with ha | ha
    · exact h2 a ha b hbr
    · obtain rfl := List.mem_singleton.1 ha
      exact hm b hbr
end
end Go.Proofs.YtkekibnhmfmhmaaGreat
/- Levels: how far places are from one place, in plain words; what just one row of numbers fulfils. -/
namespace Go.Proofs.YtkekibnhmfmhmaaGreat
open Go Go.RowKit
/-- a walk of just k ways leads to a place -/
def wk (nx : Nat → List Int) (n s : Nat) : Nat → Nat → Bool
  | 0, v => v == s
  | k + 1, v => (List.range n).any fun u => wk nx n s k u && (nx u).contains (v : Int)
/-- how far a place is; -1: no walk leads to it -/
def lev (nx : Nat → List Int) (n s v : Nat) : Int := match (List.range n).find? (fun k => wk nx n s k v) with | some k => (k : Int) | none => -1
/-- what levels fulfil -/
structure LevOk (nx : Nat → List Int) (n s : Nat) (f : Nat → Int) : Prop where
  ge : ∀ v, v < n → -1 ≤ f v
  zero : ∀ v, v < n → (f v = 0 ↔ v = s)
  next : ∀ u v, u < n → v < n → (v : Int) ∈ nx u → 0 ≤ f u → 0 ≤ f v ∧ f v ≤ f u + 1
  pred : ∀ v, v < n → 0 < f v → ∃ u, u < n ∧ f u = f v - 1 ∧ (v : Int) ∈ nx u
theorem wk_succ {nx : Nat → List Int} {n s k v : Nat} : wk nx n s (k + 1) v = true ↔ ∃ u, u < n ∧ wk nx n s k u = true ∧ (v : Int) ∈ nx u := by
  simp [wk]
theorem LevOk.of_wk {nx : Nat → List Int} {n s : Nat} {f : Nat → Int} (h : LevOk nx n s f) (hs : s < n) : ∀ k v, v < n → wk nx n s k v = true → 0 ≤ f v ∧ f v ≤ k
  | 0, v, hv, hk => by
    have : v = s := by simpa [wk] using hk
    have := (h.zero v hv).2 this
    omega
  | k + 1, v, hv, hk => by
    obtain ⟨u, hu, h1, h2⟩ := wk_succ.1 hk
    have h3 := h.of_wk hs k u hu h1
    have h4 := h.next u v hu hv h2 h3.1
    omega
theorem LevOk.wk {nx : Nat → List Int} {n s : Nat} {f : Nat → Int} (h : LevOk nx n s f) : ∀ (k v : Nat), v < n → f v = k → wk nx n s k v = true
  | 0, v, hv, hk => by
    have := (h.zero v hv).1 (by omega)
    simpa [Proofs.YtkekibnhmfmhmaaGreat.wk] using this
  | k + 1, v, hv, hk => by
    obtain ⟨u, hu, h1, h2⟩ := h.pred v hv (by omega)
    exact wk_succ.2 ⟨u, hu, h.wk k u hu (by omega), h2⟩
theorem LevOk.uniq {nx : Nat → List Int} {n s : Nat} {f g : Nat → Int} (hf : LevOk nx n s f) (hg : LevOk nx n s g) (hs : s < n) : ∀ v, v < n → f v = g v := by
  have key : ∀ {f g : Nat → Int}, LevOk nx n s f → LevOk nx n s g → ∀ v, v < n → 0 ≤ f v → 0 ≤ g v ∧ g v ≤ f v := by
    intro f g hf hg v hv h0
    obtain ⟨k, hk⟩ : ∃ k : Nat, f v = k := ⟨(f v).toNat, by omega⟩
    have := hg.of_wk hs k v hv (hf.wk k v hv hk)
    omega
  intro v hv
  have h1 := hf.ge v hv
  have h2 := hg.ge v hv
  by_cases h : 0 ≤ f v
  · have := key hf hg v hv h
    have := key hg hf v hv this.1
    omega
  · by_cases h' : 0 ≤ g v
    · have := key hg hf v hv h'; omega
    · omega
/-- within k ways -/
def wkT (nx : Nat → List Int) (n s k v : Nat) : Bool := (List.range (k + 1)).any fun j => wk nx n s j v
theorem wkT_iff {nx : Nat → List Int} {n s k v : Nat} : wkT nx n s k v = true ↔ ∃ j, j ≤ k ∧ wk nx n s j v = true := by
  simp only [wkT, List.any_eq_true, List.mem_range]
  constructor
  · rintro ⟨j, h1, h2⟩; exact ⟨j, by omega, h2⟩
  · rintro ⟨j, h1, h2⟩; exact ⟨j, by omega, h2⟩
theorem countP_less {α : Type} (p q : α → Bool) : ∀ l : List α, (∀ x ∈ l, p x = true → q x = true) → (∃ x, x ∈ l ∧ q x = true ∧ p x = false) → l.countP p < l.countP q
  | [], _, h => by obtain ⟨x, hx, _⟩ := h; cases hx
  | a :: l, h1, h2 => by
    have hle : l.countP p ≤ l.countP q := List.countP_mono_left fun x hx => h1 x (List.mem_cons_of_mem _ hx)
    obtain ⟨x, hx, hq, hp⟩ := h2
    rw [List.countP_cons, List.countP_cons]
    rcases List.mem_cons.1 hx with rfl | hx
    · simp only [hq, hp]; simp; omega
    · have := countP_less p q l (fun x hx => h1 x (List.mem_cons_of_mem _ hx)) ⟨x, hx, hq, hp⟩
      have h3 := h1 a (List.mem_cons_self ..)
      cases ha : p a with
      | false => simp only [Bool.false_eq_true, if_false]; split <;> omega
      | true => rw [h3 ha]; simp; omega
theorem wkT_stop {nx : Nat → List Int} {n s : Nat} : ∀ m k, (List.range n).countP (fun v => !wkT nx n s k v) ≤ m → ∃ j, j ≤ k + m ∧ ∀ v, v < n → wkT nx n s (j + 1) v = true → wkT nx n s j v = true
  | m, k, h => by
    by_cases hs : ∀ v, v < n → wkT nx n s (k + 1) v = true → wkT nx n s k v = true
    · exact ⟨k, by omega, hs⟩
    · have : ∃ v, v < n ∧ wkT nx n s (k + 1) v = true ∧ wkT nx n s k v = false := by
        apply Classical.byContradiction
        intro hc
        apply hs
        intro v hv h1
        cases h2 : wkT nx n s k v with
        | true => rfl
        | false => exact absurd ⟨v, hv, h1, h2⟩ hc
      obtain ⟨v, hv, h1, h2⟩ := this
      have hlt := countP_less (fun v => !wkT nx n s (k + 1) v) (fun v => !wkT nx n s k v) (List.range n) (fun x _ hx => by
        simp only [Bool.not_eq_eq_eq_not, Bool.not_true] at hx ⊢
        cases h3 : wkT nx n s k x with
        | false => rfl
        | true =>
          obtain ⟨j, hj, h4⟩ := wkT_iff.1 h3
          rw [wkT_iff.2 ⟨j, by omega, h4⟩] at hx; cases hx) ⟨v, List.mem_range.2 hv, by simp [h2], by simp [h1]⟩
      cases m with
      | zero => omega
      | succ m =>
        obtain ⟨j, hj, h3⟩ := wkT_stop (nx := nx) (n := n) (s := s) m (k + 1) (by omega)
        exact ⟨j, by omega, h3⟩
theorem wkT_closed {nx : Nat → List Int} {n s j : Nat} (h : ∀ v, v < n → wkT nx n s (j + 1) v = true → wkT nx n s j v = true) : ∀ k v, v < n → wk nx n s k v = true → wkT nx n s j v = true
  | 0, v, _, hk => wkT_iff.2 ⟨0, Nat.zero_le _, hk⟩
  | k + 1, v, hv, hk => by
    obtain ⟨u, hu, h1, h2⟩ := wk_succ.1 hk
    obtain ⟨i, hi, h3⟩ := wkT_iff.1 (wkT_closed h k u hu h1)
    exact h v hv (wkT_iff.2 ⟨i + 1, by omega, wk_succ.2 ⟨u, hu, h3, h2⟩⟩)
/-- each walk can be had in less than n ways -/
theorem wk_short {nx : Nat → List Int} {n s : Nat} (hs : s < n) {k v : Nat} (hv : v < n) (hk : wk nx n s k v = true) : ∃ j, j < n ∧ wk nx n s j v = true := by
  have h0 : (List.range n).countP (fun v => !wkT nx n s 0 v) ≤ n - 1 := by
    have := countP_less (fun v => !wkT nx n s 0 v) (fun _ => true) (List.range n) (fun _ _ _ => rfl) ⟨s, List.mem_range.2 hs, rfl, by simp [wkT, wk, List.range_succ]⟩
    rw [List.countP_true, List.length_range] at this
    omega
  obtain ⟨j, hj, h1⟩ := wkT_stop (nx := nx) (s := s) (n - 1) 0 h0
  obtain ⟨i, hi, h2⟩ := wkT_iff.1 (wkT_closed h1 k v hv hk)
  exact ⟨i, by omega, h2⟩
/-- the least one -/
theorem least_nat {p : Nat → Bool} : ∀ k, p k = true → ∃ j, j ≤ k ∧ p j = true ∧ ∀ i, i < j → p i = false
  | 0, h => ⟨0, Nat.le_refl _, h, fun i hi => by omega⟩
  | k + 1, h => by
    by_cases h1 : ∃ j, j ≤ k ∧ p j = true
    · obtain ⟨j, hj, h2⟩ := h1
      obtain ⟨i, hi, h3, h4⟩ := least_nat j h2
      exact ⟨i, by omega, h3, h4⟩
    · refine ⟨k + 1, Nat.le_refl _, h, fun i hi => ?_⟩
      cases h2 : p i with
      | false => rfl
      | true => exact absurd ⟨i, by omega, h2⟩ h1
theorem find_range {p : Nat → Bool} {n k : Nat} (hk : k < n) (h1 : p k = true) (h2 : ∀ i, i < k → p i = false) : (List.range n).find? p = some k := by
  rw [List.find?_eq_some_iff_append]
  refine ⟨h1, List.range k, (List.range (n - k - 1)).map (· + (k + 1)), ?_, fun i hi => by rw [h2 i (List.mem_range.1 hi)]; rfl⟩
  have : n = k + 1 + (n - k - 1) := by omega
  conv => lhs; rw [this, List.range_add, List.range_succ]
  rw [List.append_assoc, List.singleton_append]
  have he : (fun x : Nat => k + 1 + x) = fun x => x + (k + 1) := by funext x; omega
  rw [he]
theorem lev_pos {nx : Nat → List Int} {n s v : Nat} (hs : s < n) (hv : v < n) {k : Nat} (hk : wk nx n s k v = true) : ∃ j, j ≤ k ∧ j < n ∧ lev nx n s v = j ∧ wk nx n s j v = true ∧ ∀ i, i < j → wk nx n s i v = false := by
  obtain ⟨i, hi, h1⟩ := wk_short hs hv hk
  obtain ⟨j, hj, h2, h3⟩ := least_nat (p := fun k => wk nx n s k v) i h1
  have hjk : j ≤ k := by
    by_cases h : j ≤ k
    · exact h
    · have := h3 k (by omega); rw [hk] at this; cases this
  refine ⟨j, hjk, by omega, ?_, h2, h3⟩
  unfold lev
  rw [find_range (p := fun k => wk nx n s k v) (by omega : j < n) h2 h3]
theorem lev_cases {nx : Nat → List Int} {n s v : Nat} (hs : s < n) (hv : v < n) : (lev nx n s v = -1 ∧ ∀ k, wk nx n s k v = false) ∨ ∃ j : Nat, j < n ∧ lev nx n s v = j ∧ wk nx n s j v = true ∧ ∀ i, i < j → wk nx n s i v = false := by
  by_cases h : ∃ k, wk nx n s k v = true
  · obtain ⟨k, hk⟩ := h
    obtain ⟨j, _, h1, h2, h3, h4⟩ := lev_pos hs hv hk
    exact Or.inr ⟨j, h1, h2, h3, h4⟩
  · have h' : ∀ k, wk nx n s k v = false := fun k => by
      cases h2 : wk nx n s k v with
      | false => rfl
      | true => exact absurd ⟨k, h2⟩ h
    refine .inl ⟨?_, h'⟩
    unfold lev
    rw [List.find?_eq_none.2 (fun x _ => by simp [h' x])]
theorem lev_ok (nx : Nat → List Int) (n s : Nat) (hs : s < n) : LevOk nx n s (lev nx n s) := by
  refine ⟨fun v hv => ?_, fun v hv => ?_, fun u v hu hv hm h0 => ?_, fun v hv h0 => ?_⟩
  · rcases lev_cases (nx := nx) hs hv with ⟨h, _⟩ | ⟨j, _, h, _⟩ <;> omega
  · constructor
    · intro h
      rcases lev_cases (nx := nx) hs hv with ⟨h1, _⟩ | ⟨j, _, h1, h2, _⟩
      · omega
      · have : j = 0 := by omega
        subst this
        simpa [wk] using h2
    · rintro rfl
      obtain ⟨j, hj, _, h1, _⟩ := lev_pos (nx := nx) (k := 0) hs hv (by simp [wk])
      omega
  · rcases lev_cases (nx := nx) hs hu with ⟨h1, _⟩ | ⟨j, _, h1, h2, _⟩
    · omega
    · obtain ⟨i, hi, _, h3, _⟩ := lev_pos hs hv (wk_succ.2 ⟨u, hu, h2, hm⟩)
      omega
  · rcases lev_cases (nx := nx) hs hv with ⟨h1, _⟩ | ⟨j, _, h1, h2, h3⟩
    · omega
    · obtain ⟨k, rfl⟩ : ∃ k, j = k + 1 := ⟨j - 1, by omega⟩
      obtain ⟨u, hu, h4, h5⟩ := wk_succ.1 h2
      refine ⟨u, hu, ?_, h5⟩
      obtain ⟨i, hi, _, h6, h7, _⟩ := lev_pos hs hu h4
      have : i = k := by
        by_cases h : i = k
        · exact h
        · have := h3 (i + 1) (by omega)
          rw [wk_succ.2 ⟨u, hu, h7, h5⟩] at this; cases this
      omega
theorem lev_lt {nx : Nat → List Int} {n s v : Nat} (hs : s < n) (hv : v < n) : lev nx n s v < n := by
  rcases lev_cases (nx := nx) hs hv with ⟨h, _⟩ | ⟨j, hj, h, _⟩ <;> omega
end Go.Proofs.YtkekibnhmfmhmaaGreat
/- Levels that are lowered edge by edge come to what levels are. -/
namespace Go.Proofs.YtkekibnhmfmhmaaGreat
open Go Go.RowKit
/-- one edge -/
def bf1 (X : List Int) (x : Int × Int) : List Int :=
  if 0 ≤ nth X x.1.toNat ∧ (nth X x.2.toNat < 0 ∨ nth X x.1.toNat + 1 < nth X x.2.toNat) then X.set x.2.toNat (nth X x.1.toNat + 1) else X
def bfR (l : List (Int × Int)) (X : List Int) : List Int := l.foldl bf1 X
def bfN (l : List (Int × Int)) (X : List Int) : Nat → List Int
  | 0 => X
  | t + 1 => bfR l (bfN l X t)
theorem bf1_len (X : List Int) (x : Int × Int) : (bf1 X x).length = X.length := by unfold bf1; split <;> simp
theorem bfR_len (l : List (Int × Int)) : ∀ X, (bfR l X).length = X.length := by
  induction l with
  | nil => intro X; rfl
  | cons a l ih => intro X; unfold bfR at *; rw [List.foldl_cons, ih, bf1_len]
theorem bfN_len (l : List (Int × Int)) (X : List Int) : ∀ t, (bfN l X t).length = X.length
  | 0 => rfl
  | t + 1 => by rw [bfN, bfR_len, bfN_len l X t]
theorem bfR_take {l : List (Int × Int)} {X : List Int} {i : Nat} (h : i < l.length) : bfR (l.take (i + 1)) X = bf1 (bfR (l.take i) X) (nth l i) := by
  unfold bfR; rw [take_succ_nth l i h, List.foldl_append]; rfl
theorem nth_set (X : List Int) (i j : Nat) (a : Int) (hi : i < X.length) : nth (X.set i a) j = if j = i then a else nth X j := by
  unfold nth
  rw [List.getD_eq_getElem?_getD, List.getD_eq_getElem?_getD, List.getElem?_set]
  by_cases h : i = j
  · subst h; simp [hi]
  · rw [if_neg h, if_neg (fun e => h e.symm)]
section
variable {nx : Nat → List Int} {n s : Nat} (hs : s < n) {l : List (Int × Int)}
  (hr : ∀ x ∈ l, 0 ≤ x.1 ∧ x.1 < n ∧ 0 ≤ x.2 ∧ x.2 < n) (hl : ∀ u v : Nat, u < n → v < n → (((u : Int), (v : Int)) ∈ l ↔ (v : Int) ∈ nx u))
/-- no number is less than a level -/
def Low (nx : Nat → List Int) (n s : Nat) (X : List Int) : Prop := X.length = n ∧ ∀ v, v < n → nth X v = -1 ∨ (0 ≤ lev nx n s v ∧ lev nx n s v ≤ nth X v)
include hs hr hl in
theorem bf1_low {X : List Int} (h : Low nx n s X) {x : Int × Int} (hx : x ∈ l) : Low nx n s (bf1 X x) ∧ (∀ v, v < n → 0 ≤ lev nx n s v → nth X v = lev nx n s v → nth (bf1 X x) v = lev nx n s v) ∧
    (0 ≤ lev nx n s x.1.toNat → nth X x.1.toNat = lev nx n s x.1.toNat → lev nx n s x.2.toNat = lev nx n s x.1.toNat + 1 → nth (bf1 X x) x.2.toNat = lev nx n s x.2.toNat) := by
  obtain ⟨h1, h2, h3, h4⟩ := hr x hx
  have hm : ((x.2.toNat : Nat) : Int) ∈ nx x.1.toNat := by
    rw [← hl x.1.toNat x.2.toNat (by omega) (by omega)]
    rw [Int.toNat_of_nonneg h1, Int.toNat_of_nonneg h3]; exact hx
  have hn := (lev_ok nx n s hs).next x.1.toNat x.2.toNat (by omega) (by omega) hm
  have hlo := h.2 x.1.toNat (by omega)
  have hlo2 := h.2 x.2.toNat (by omega)
  generalize hu : x.1.toNat = u at *
  generalize hw : x.2.toNat = w at *
  have hwn : w < X.length := by have := h.1; omega
  unfold bf1
  rw [hu, hw]
  by_cases hc : 0 ≤ nth X u ∧ (nth X w < 0 ∨ nth X u + 1 < nth X w)
  · rw [if_pos hc]
    have hle : 0 ≤ lev nx n s w ∧ lev nx n s w ≤ nth X u + 1 := by omega
    refine ⟨⟨by rw [List.length_set]; exact h.1, fun v hv => ?_⟩, fun v hv h0 he => ?_, fun h0 he he2 => ?_⟩
    · rw [nth_set _ _ _ _ hwn]
      split
      · rename_i e; subst e; exact .inr hle
      · exact h.2 v hv
    · rw [nth_set _ _ _ _ hwn]
      split
      · rename_i e; subst e; omega
      · exact he
    · rw [nth_set _ _ _ _ hwn, if_pos rfl]; omega
  · rw [if_neg hc]
    refine ⟨h, fun v hv h0 he => he, fun h0 he he2 => ?_⟩
    omega
include hs hr hl in
theorem bfR_low : ∀ (k : List (Int × Int)) (X : List Int), (∀ x ∈ k, x ∈ l) → Low nx n s X → Low nx n s (bfR k X) ∧ (∀ v, v < n → 0 ≤ lev nx n s v → nth X v = lev nx n s v → nth (bfR k X) v = lev nx n s v) ∧
    (∀ x ∈ k, 0 ≤ lev nx n s x.1.toNat → nth X x.1.toNat = lev nx n s x.1.toNat → lev nx n s x.2.toNat = lev nx n s x.1.toNat + 1 → nth (bfR k X) x.2.toNat = lev nx n s x.2.toNat)
  | [], X, _, h => ⟨h, fun _ _ _ e => e, fun _ hx => nomatch hx⟩
  | a :: k, X, hk, h => by
    obtain ⟨h1, h2, h3⟩ := bf1_low hs hr hl h (hk a (List.mem_cons_self ..))
    obtain ⟨g1, g2, g3⟩ := bfR_low k (bf1 X a) (fun x hx => hk x (List.mem_cons_of_mem _ hx)) h1
    refine ⟨g1, fun v hv h0 he => g2 v hv h0 (h2 v hv h0 he), fun x hx h0 he he2 => ?_⟩
    obtain ⟨r1, r2, r3, r4⟩ := hr x (hk x hx)
    rcases List.mem_cons.1 hx with rfl | hx
    · exact g2 _ (by omega) (by omega) (h3 h0 he he2)
    · exact g3 x hx h0 (h2 _ (by omega) h0 he) he2
include hs hr hl in
theorem bfN_upto {X : List Int} (h : Low nx n s X) (h0 : nth X s = 0) : ∀ t, Low nx n s (bfN l X t) ∧ ∀ v, v < n → 0 ≤ lev nx n s v → lev nx n s v ≤ t → nth (bfN l X t) v = lev nx n s v
  | 0 => ⟨h, fun v hv h1 h2 => by
    have h3 : lev nx n s v = 0 := by omega
    have := ((lev_ok nx n s hs).zero v hv).1 h3
    subst this
    rw [h3]; exact h0⟩
  | t + 1 => by
    obtain ⟨h1, h2⟩ := bfN_upto h h0 t
    obtain ⟨g1, g2, g3⟩ := bfR_low hs hr hl l (bfN l X t) (fun _ hx => hx) h1
    refine ⟨g1, fun v hv h3 h4 => ?_⟩
    by_cases h5 : lev nx n s v ≤ t
    · exact g2 v hv h3 (h2 v hv h3 h5)
    · obtain ⟨u, hu, h6, h7⟩ := (lev_ok nx n s hs).pred v hv (by omega)
      have h8 := g3 ((u : Int), (v : Int)) ((hl u v hu hv).2 h7)
      simp only [Int.toNat_natCast] at h8
      exact h8 (by omega) (h2 u hu (by omega) (by omega)) (by omega)
include hs hr hl in
theorem bfN_lev {X : List Int} (h : Low nx n s X) (h0 : nth X s = 0) : bfN l X n = (List.range n).map fun v => lev nx n s v := by
  obtain ⟨h1, h2⟩ := bfN_upto hs hr hl h h0 n
  apply List.ext_getElem
  · rw [h1.1]; simp
  · intro v hv1 hv2
    have hv : v < n := by simpa using hv2
    rw [← nth_eq hv1]
    simp only [List.getElem_map, List.getElem_range]
    rcases lev_cases (nx := nx) hs hv with ⟨h3, h4⟩ | ⟨j, hj, h3, _⟩
    · rcases h1.2 v hv with h5 | h5
      · rw [h5, h3]
      · omega
    · exact h2 v hv (by omega) (by omega)
end
/-- the row that is begun with -/
def bf0 (n s : Nat) : List Int := (List.replicate n (-1)).set s 0
theorem bf0_nth {n s : Nat} (hs : s < n) (v : Nat) (hv : v < n) : nth (bf0 n s) v = if v = s then 0 else -1 := by
  unfold bf0
  rw [nth_set _ _ _ _ (by simpa using hs)]
  split
  · rfl
  · rw [nth_eq (by simpa using hv)]; simp
theorem bf0_low {nx : Nat → List Int} {n s : Nat} (hs : s < n) : Low nx n s (bf0 n s) := by
  refine ⟨by simp [bf0], fun v hv => ?_⟩
  rw [bf0_nth hs v hv]
  split
  · rename_i e; subst e
    have := ((lev_ok nx n v hs).zero v hv).2 rfl
    omega
  · exact .inl rfl
/-- each number is small -/
theorem bf1_small {X : List Int} {x : Int × Int} {B : Int} (_ : -1 ≤ B) (h : ∀ v, -1 ≤ nth X v ∧ nth X v ≤ B) : ∀ v, -1 ≤ nth (bf1 X x) v ∧ nth (bf1 X x) v ≤ B + 1 := by
  intro v
  unfold bf1
  have h1 := h v
  have h2 := h x.1.toNat
  split
  · by_cases hw : x.2.toNat < X.length
    · rw [nth_set _ _ _ _ hw]
      split <;> omega
    · rw [List.set_eq_of_length_le (by omega)]; omega
  · omega
theorem rep_set {n v : Nat} (hv : v < n) : (List.replicate v (-1 : Int) ++ List.replicate (n - v) 0).set v (-1) = List.replicate (v + 1) (-1) ++ List.replicate (n - (v + 1)) 0 := by
  obtain ⟨m, rfl⟩ : ∃ m, n = v + 1 + m := ⟨n - v - 1, by omega⟩
  rw [show v + 1 + m - v = m + 1 by omega, show v + 1 + m - (v + 1) = m by omega, List.replicate_succ (n := m), List.replicate_succ' (n := v)]
  rw [List.set_append_right _ _ (by simp)]
  simp
theorem bfR_bd {l : List (Int × Int)} {B : Int} : ∀ i X, 0 ≤ B → (∀ v, -1 ≤ nth X v ∧ nth X v ≤ B) → ∀ v, -1 ≤ nth (bfR (l.take i) X) v ∧ nth (bfR (l.take i) X) v ≤ B + i
  | 0, X, _, h => fun v => by have := h v; simp [bfR]; omega
  | i + 1, X, hB, h => fun v => by
    by_cases hi : i < l.length
    · rw [bfR_take hi]
      have := bf1_small (x := nth l i) (B := B + i) (by omega) (bfR_bd (l := l) i X hB h) v
      omega
    · have := bfR_bd (l := l) i X hB h v
      rw [List.take_of_length_le (by omega : l.length ≤ i + 1)]
      rw [List.take_of_length_le (by omega : l.length ≤ i)] at this
      omega
theorem bf0_bd (n s : Nat) (v : Nat) : -1 ≤ nth (bf0 n s) v ∧ nth (bf0 n s) v ≤ 0 := by
  unfold bf0
  by_cases h : s < n
  · rw [nth_set _ _ _ _ (by simpa using h)]
    split
    · omega
    · by_cases hv : v < n
      · rw [nth_eq (by simpa using hv)]; simp
      · unfold nth; simp [hv]
  · rw [List.set_eq_of_length_le (by simp; omega)]
    by_cases hv : v < n
    · rw [nth_eq (by simpa using hv)]; simp
    · unfold nth; simp [hv]
theorem bfN_bd {l : List (Int × Int)} {n s : Nat} : ∀ t v, -1 ≤ nth (bfN l (bf0 n s) t) v ∧ nth (bfN l (bf0 n s) t) v ≤ (t * l.length : Nat)
  | 0, v => by have := bf0_bd n s v; simp [bfN]; omega
  | t + 1, v => by
    have := bfR_bd (l := l) l.length (bfN l (bf0 n s) t) (by omega) (bfN_bd t) v
    rw [List.take_length] at this
    rw [bfN, Nat.add_mul, Nat.one_mul]
    omega
end Go.Proofs.YtkekibnhmfmhmaaGreat
/- Two searches, from both ends: how far, when they meet, the path, in plain words. -/
namespace Go.Proofs.YtkekibnhmfmhmaaGreat
open Go Go.RowKit
theorem wk_zero {nx : Nat → List Int} {n s v : Nat} : wk nx n s 0 v = true ↔ v = s := by simp [wk]
theorem wk_bound {nx : Nat → List Int} {n s : Nat} (_ : s < n) : ∀ {k v : Nat}, v < n → wk nx n s k v = true → v < n := fun hv _ => hv
/-- a walk's first way -/
theorem wk_front {nx : Nat → List Int} {n s : Nat} (hs : s < n) : ∀ {k v : Nat}, v < n → (wk nx n s (k + 1) v = true ↔ ∃ u, u < n ∧ (u : Int) ∈ nx s ∧ wk nx n u k v = true)
  | 0, v, hv => by
    rw [wk_succ]
    constructor
    · rintro ⟨u, hu, h1, h2⟩
      have := wk_zero.1 h1; subst this
      exact ⟨v, hv, h2, wk_zero.2 rfl⟩
    · rintro ⟨u, hu, h1, h2⟩
      have := wk_zero.1 h2; subst this
      exact ⟨s, hs, wk_zero.2 rfl, h1⟩
  | k + 1, v, hv => by
    rw [wk_succ]
    constructor
    · rintro ⟨u, hu, h1, h2⟩
      obtain ⟨x, hx, h3, h4⟩ := (wk_front hs hu).1 h1
      exact ⟨x, hx, h3, wk_succ.2 ⟨u, hu, h4, h2⟩⟩
    · rintro ⟨x, hx, h3, h4⟩
      obtain ⟨u, hu, h5, h6⟩ := wk_succ.1 h4
      exact ⟨u, hu, (wk_front hs hu).2 ⟨x, hx, h3, h5⟩, h6⟩
theorem wk_trans {nx : Nat → List Int} {n s v : Nat} {a : Nat} (h1 : wk nx n s a v = true) : ∀ b t, t < n → wk nx n v b t = true → wk nx n s (a + b) t = true
  | 0, t, _, h2 => by have := wk_zero.1 h2; subst this; exact h1
  | b + 1, t, _, h2 => by
    obtain ⟨u, hu, h3, h4⟩ := wk_succ.1 h2
    exact wk_succ.2 ⟨u, hu, wk_trans h1 b u hu h3, h4⟩
theorem wk_split {nx : Nat → List Int} {n s : Nat} {a : Nat} : ∀ b t, t < n → wk nx n s (a + b) t = true → ∃ v, v < n ∧ wk nx n s a v = true ∧ wk nx n v b t = true
  | 0, t, ht, h => ⟨t, ht, h, wk_zero.2 rfl⟩
  | b + 1, t, ht, h => by
    obtain ⟨u, hu, h1, h2⟩ := wk_succ.1 h
    obtain ⟨v, hv, h3, h4⟩ := wk_split b u hu h1
    exact ⟨v, hv, h3, wk_succ.2 ⟨u, hu, h4, h2⟩⟩
/-- each place's next ones are those of which it is a next one, turned -/
def Rev (nx nb : Nat → List Int) (n : Nat) : Prop := ∀ u v : Nat, u < n → v < n → ((v : Int) ∈ nx u ↔ (u : Int) ∈ nb v)
theorem wk_rev {nx nb : Nat → List Int} {n : Nat} (h : Rev nx nb n) : ∀ k s v, s < n → v < n → (wk nx n s k v = true ↔ wk nb n v k s = true)
  | 0, s, v, _, _ => by rw [wk_zero, wk_zero]; exact ⟨fun e => e.symm, fun e => e.symm⟩
  | k + 1, s, v, hs, hv => by
    rw [wk_succ, wk_front hv hs]
    constructor
    · rintro ⟨u, hu, h1, h2⟩
      exact ⟨u, hu, (h u v hu hv).1 h2, (wk_rev h k s u hs hu).1 h1⟩
    · rintro ⟨u, hu, h1, h2⟩
      exact ⟨u, hu, (wk_rev h k s u hs hu).2 h2, (h u v hu hv).2 h1⟩
/-- back from one place as from the other -/
theorem lev_rev {nx nb : Nat → List Int} {n s t : Nat} (h : Rev nx nb n) (hs : s < n) (ht : t < n) : lev nx n s t = lev nb n t s := by
  have e : ∀ k, wk nx n s k t = wk nb n t k s := fun k => by rw [Bool.eq_iff_iff]; exact wk_rev h k s t hs ht
  unfold lev
  rw [show (fun k => wk nx n s k t) = fun k => wk nb n t k s from funext e]
theorem lev_wk {nx : Nat → List Int} {n s v : Nat} (hs : s < n) (hv : v < n) (h : 0 ≤ lev nx n s v) : wk nx n s (lev nx n s v).toNat v = true := by
  rcases lev_cases (nx := nx) hs hv with ⟨h1, _⟩ | ⟨j, _, h1, h2, _⟩
  · omega
  · rw [h1]; exact h2
theorem lev_le {nx : Nat → List Int} {n s v k : Nat} (hs : s < n) (hv : v < n) (h : wk nx n s k v = true) : 0 ≤ lev nx n s v ∧ lev nx n s v ≤ k := by
  obtain ⟨j, h1, _, h2, _⟩ := lev_pos hs hv h; omega
section
variable {nx nb : Nat → List Int} {n s t : Nat} (h : Rev nx nb n) (hs : s < n) (ht : t < n)
include h hs ht in
/-- over a place that both have it is no shorter -/
theorem lev_over {v : Nat} (hv : v < n) (h1 : 0 ≤ lev nx n s v) (h2 : 0 ≤ lev nb n t v) : 0 ≤ lev nx n s t ∧ lev nx n s t ≤ lev nx n s v + lev nb n t v := by
  have g1 := lev_wk hs hv h1
  have g2 := (wk_rev h _ v t hv ht).2 (lev_wk ht hv h2)
  have g3 := lev_le hs ht (wk_trans g1 _ t ht g2)
  omega
include h hs ht in
/-- on a shortest walk there is a place of each level -/
theorem lev_mid {j : Nat} (h0 : 0 ≤ lev nx n s t) (hj : j ≤ lev nx n s t) : ∃ v, v < n ∧ lev nx n s v = j ∧ lev nb n t v = lev nx n s t - j := by
  have g := lev_wk hs ht h0
  rw [show (lev nx n s t).toNat = j + ((lev nx n s t).toNat - j) by omega] at g
  obtain ⟨v, hv, g1, g2⟩ := wk_split _ t ht g
  have g3 := lev_le hs hv g1
  have g4 := lev_le ht hv ((wk_rev h _ v t hv ht).1 g2)
  have g5 := lev_over h hs ht hv g3.1 g4.1
  exact ⟨v, hv, by omega, by omega⟩
end
/-- levels up to k -/
def cut (f : Nat → Int) (k : Int) (v : Nat) : Int := if 0 ≤ f v ∧ f v ≤ k then f v else -1
theorem cut_ge {f : Nat → Int} {k : Int} {v : Nat} : 0 ≤ cut f k v ↔ 0 ≤ f v ∧ f v ≤ k := by unfold cut; split <;> omega
theorem cut_eq {f : Nat → Int} {k : Int} {v : Nat} (h : 0 ≤ cut f k v) : cut f k v = f v := by unfold cut at *; split at h <;> simp_all
/-- a place that both have -/
def meetB (n : Nat) (f g : Nat → Int) (k : Int) : Bool := (List.range n).any fun v => decide (0 ≤ f v) && decide (f v ≤ k) && decide (0 ≤ g v) && decide (g v ≤ k)
theorem meetB_iff {n : Nat} {f g : Nat → Int} {k : Int} : meetB n f g k = true ↔ ∃ v, v < n ∧ 0 ≤ f v ∧ f v ≤ k ∧ 0 ≤ g v ∧ g v ≤ k := by
  simp [meetB, and_assoc]
/-- is a level there? -/
def hasL (n : Nat) (f : Nat → Int) (k : Int) : Bool := (List.range n).any fun v => f v == k
theorem hasL_iff {n : Nat} {f : Nat → Int} {k : Int} : hasL n f k = true ↔ ∃ v, v < n ∧ f v = k := by
  simp [hasL]
section
variable {nx nb : Nat → List Int} {n s t : Nat} (h : Rev nx nb n) (hs : s < n) (ht : t < n)
include h hs ht in
theorem meet_lev {k : Nat} : meetB n (lev nx n s) (lev nb n t) k = true ↔ 0 ≤ lev nx n s t ∧ lev nx n s t ≤ 2 * (k : Int) := by
  rw [meetB_iff]
  constructor
  · rintro ⟨v, hv, h1, h2, h3, h4⟩
    have := lev_over h hs ht hv h1 h3; omega
  · rintro ⟨h1, h2⟩
    by_cases h3 : lev nx n s t ≤ k
    · obtain ⟨v, hv, g1, g2⟩ := lev_mid h hs ht (j := (lev nx n s t).toNat) h1 (by omega)
      exact ⟨v, hv, by omega, by omega, by omega, by omega⟩
    · obtain ⟨v, hv, g1, g2⟩ := lev_mid h hs ht (j := k) h1 (by omega)
      exact ⟨v, hv, by omega, by omega, by omega, by omega⟩
include hs in
theorem has_below {k j : Nat} (hj : j ≤ k) (hk : hasL n (lev nx n s) k = true) : hasL n (lev nx n s) j = true := by
  obtain ⟨v, hv, h1⟩ := hasL_iff.1 hk
  have g := lev_wk (nx := nx) hs hv (by omega)
  rw [h1, Int.toNat_natCast, show k = j + (k - j) by omega] at g
  obtain ⟨u, hu, g1, g2⟩ := wk_split _ v hv g
  have g3 := lev_le hs hu g1
  have g4 := lev_wk (nx := nx) hs hu g3.1
  have g5 := lev_le hs hv (wk_trans g4 _ v hv g2)
  exact hasL_iff.2 ⟨u, hu, by omega⟩
include hs in
theorem has_lt {k : Nat} (hk : hasL n (lev nx n s) k = true) : k < n := by
  obtain ⟨v, hv, h1⟩ := hasL_iff.1 hk
  have := lev_lt (nx := nx) hs hv; omega
include hs in
theorem has_0 : hasL n (lev nx n s) 0 = true := hasL_iff.2 ⟨s, hs, ((lev_ok nx n s hs).zero s hs).2 rfl⟩
end
/-- how many steps both searches take, from k on -/
def stepsK (n : Nat) (f g : Nat → Int) : Nat → Nat → Nat
  | 0, k => k
  | m + 1, k => if meetB n f g k = true then k else if hasL n f (k + 1) = true ∧ hasL n g (k + 1) = true then stepsK n f g m (k + 1) else k
def stepsN (n : Nat) (f g : Nat → Int) : Nat := stepsK n f g (n + 1) 0
section
variable {nx nb : Nat → List Int} {n s t : Nat} (h : Rev nx nb n) (hs : s < n) (ht : t < n)
include h hs ht in
theorem steps_yes (h0 : 0 ≤ lev nx n s t) : ∀ m k, n < k + m → 2 * (k:Int) ≤ lev nx n s t + 1 → stepsK n (lev nx n s) (lev nb n t) m k = ((lev nx n s t + 1) / 2).toNat
  | 0, k, hm, hk => by have := lev_lt (nx := nx) hs ht; omega
  | m + 1, k, hm, hk => by
    unfold stepsK
    by_cases h1 : meetB n (lev nx n s) (lev nb n t) k = true
    · rw [if_pos h1]
      have := (meet_lev h hs ht).1 h1; omega
    · rw [if_neg h1]
      have h2 : 2 * (k:Int) < lev nx n s t := by
        have := mt (meet_lev h hs ht (k := k)).2 h1; omega
      have h3 : hasL n (lev nx n s) ((k:Int) + 1) = true := by
        obtain ⟨v, hv, g1, _⟩ := lev_mid h hs ht (j := k + 1) h0 (by omega)
        exact hasL_iff.2 ⟨v, hv, by omega⟩
      have h4 : hasL n (lev nb n t) ((k:Int) + 1) = true := by
        obtain ⟨v, hv, _, g1⟩ := lev_mid h hs ht (j := (lev nx n s t).toNat - (k + 1)) h0 (by omega)
        exact hasL_iff.2 ⟨v, hv, by omega⟩
      rw [if_pos ⟨h3, h4⟩]
      exact steps_yes h0 m (k + 1) (by omega) (by omega)
include h hs ht in
theorem steps_no (h0 : lev nx n s t < 0) : ∀ m k, n < k + m → (k = 0 ∨ (hasL n (lev nx n s) k = true ∧ hasL n (lev nb n t) k = true)) → stepsK n (lev nx n s) (lev nb n t) m k < n
  | 0, k, hm, hk => by
    rcases hk with hk | hk
    · omega
    · have := has_lt hs hk.1; omega
  | m + 1, k, hm, hk => by
    unfold stepsK
    have h1 : ¬ meetB n (lev nx n s) (lev nb n t) k = true := fun h1 => by
      have := (meet_lev h hs ht).1 h1; omega
    rw [if_neg h1]
    split
    · rename_i h2
      exact steps_no h0 m (k + 1) (by omega) (.inr (by exact_mod_cast h2))
    · rcases hk with hk | hk
      · omega
      · exact has_lt hs hk.1
end
/-- the path: from each place to the first one that is a step nearer -/
def stepL (nx : Nat → List Int) (g : Nat → Int) (u : Nat) : Nat := (((nx u).find? fun x => g x.toNat == g u - 1).getD 0).toNat
def pathL (nx : Nat → List Int) (g : Nat → Int) : Nat → Nat → List Nat
  | 0, u => [u]
  | k + 1, u => u :: pathL nx g k (stepL nx g u)
theorem pathL_len (nx : Nat → List Int) (g : Nat → Int) : ∀ k u, (pathL nx g k u).length = k + 1
  | 0, _ => rfl
  | k + 1, u => by rw [pathL, List.length_cons, pathL_len nx g k]
end Go.Proofs.YtkekibnhmfmhmaaGreat
/- The reference's All and Any; the program's, in the same words. -/
namespace Go.Proofs.YtkekibnhmfmhmaaGreat
open Go Go.RowKit Go.Maps
def allK (L : List Po) (ws : List ByteArray) (k : Nat) : List Int := putAll ltI ((findL L (nth ws 0)).filter fun x => (ws.take k).all fun u => (findL L u).contains x)
theorem allK_mem {L : List Po} {ws : List ByteArray} {k : Nat} {x : Int} : x ∈ allK L ws k ↔ (x ∈ findL L (nth ws 0) ∧ ∀ u ∈ ws.take k, x ∈ findL L u) := by
  unfold allK
  rw [putAll_mem stoI, List.mem_filter, List.all_eq_true]
  simp
theorem allK_one {L : List Po} {ws : List ByteArray} (h : 0 < ws.length) : allK L ws 1 = putAll ltI (findL L (nth ws 0)) := by
  refine rises_uniq stoI _ _ (putAll_rises stoI _) (putAll_rises stoI _) fun x => ?_
  rw [allK_mem, putAll_mem stoI, take_succ_nth ws 0 h]
  simp
theorem allK_step {L : List Po} {ws : List ByteArray} {k : Nat} (h : k < ws.length) : bothS (allK L ws k) (findL L (nth ws k)) = allK L ws (k + 1) := by
  refine rises_uniq stoI _ _ (putAll_rises stoI _) (putAll_rises stoI _) fun x => ?_
  rw [allK_mem]
  unfold bothS
  rw [putAll_mem stoI, List.mem_filter, allK_mem, inB_iff, take_succ_nth ws k h]
  constructor
  · rintro ⟨⟨h1, h2⟩, h3⟩
    refine ⟨h1, fun u hu => ?_⟩
    rcases List.mem_append.1 hu with hu | hu
    · exact h2 u hu
    · rw [List.mem_singleton] at hu; subst hu; exact h3
  · rintro ⟨h1, h2⟩
    exact ⟨⟨h1, fun u hu => h2 u (List.mem_append_left _ hu)⟩, h2 _ (by simp)⟩
theorem allK_len {L : List Po} (hok : PoOk L) (ws : List ByteArray) (k : Nat) : (allK L ws k).length ≤ 1000 := by
  unfold allK
  exact Nat.le_trans (putAll_len _ _) (Nat.le_trans (List.length_filter_le _ _) (findL_ok hok _).1)
theorem allK_end {L : List Po} {ws : List ByteArray} {k : Nat} (h : ws.length ≤ k) : allK L ws k = allS L ws := by
  unfold allK allS; rw [List.take_of_length_le h]
set_option maxHeartbeats 1000000 in
theorem All05 (p : Option Addr) (np cp : Nat) (hs : List Hd) (L : List Po) (pr : Option Addr) (nr cr : Nat) (ws : List ByteArray) (w : World) (hL : RdP w p np hs L) (hok : PoOk L) (hR : Rd w 1 pr nr (encS ws)) (h0 : 0 < nr) (hn : nr ≤ 100) :
    Calls Tryz.prog 71 #[.slice p np cp, .slice pr nr cr] w fun e w' => ∃ q c, e = .returned (.tuple #[.slice q (allS L ws).length c, .int .i64 0]) ∧ Sep w w' [.own 3 1 q (allS L ws).length c (encI (allS L ws))] := by
  have HF0 := Lib.hid (findL_ok hok)
  have HKL := Lib.hid (allK_len hok ws)
  have p1 := hR.ptr
  have g1 := hR.cS h0
  have L1 := Lib.hid hR.nS
  have HL := Lib.hid hL; clear hL
  have HOK := Lib.hid hok; clear hok
  have HR := Lib.hid hR; clear hR
  have hne : ((nr : Int) == 0) = false := by simp; omega
  have d2 : (0:Int) < nr := by omega
  have HK1 : Hid (putAll ltI (findL L (nth ws 0)) = allK L ws 1) := (allK_one (by rw [← L1.out]; exact h0)).symm
  have S0 := Lib.hid (Sep.start w)
  go_enter Tryz.func71, Tryz.ntmps71
  go_wp2_with (first
    | (go_at_call 99; go_must (refine (Rising05s q0 _ c0 (findL L (nth ws 0)) _ (S1.out.rd 0 rfl (by have := (HF0.out (nth ws 0)).1; omega)) (by have := (HF0.out (nth ws 0)).1; omega)).mono ?_; rintro e w2 ⟨q1, c1, rfl, T⟩; have S2 := Lib.hid (S1.out.comp T); clear T))
    | (go_at_call 100; go_must (refine (Find05 p np cp hs L (nth ws 0) _ HL.out HOK.out).mono ?_; rintro e w1 ⟨q0, c0, rfl, T⟩; have S1 := Lib.hid T; clear T)))
  rw [HK1.out]
  have S3 : Hid (Sep w w2 [.own 3 1 q1 (allK L ws 1).length c1 (encI (allK L ws 1))]) := by rw [← HK1.out]; exact S2.out.pick [0] (by decide) rfl
  clear S2 S1 HK1
  go_loopw [6, 7] (fun v i wr => ∃ (k : Nat) (u : Option Addr) (c : Nat), 1 ≤ k ∧ k ≤ nr ∧ i = .int .i64 k ∧ v = .slice u (allK L ws k).length c ∧ Sep w wr [.own 3 1 u (allK L ws k).length c (encI (allK L ws k))]) (fun _ i _ => nr - (intOf i).toNat)
  case atStart => exact ⟨1, q1, c1, Nat.le_refl _, h0, rfl, rfl, S3.out⟩
  case round =>
    clear S3
    obtain ⟨k, u, c, hk1, hk, rfl, rfl, S⟩ := hrel
    have hkl := HKL.out k
    by_cases hlt : k < nr
    · have g2 := S.ext.cell (HR.out.cS hlt)
      have HST := Lib.hid (allK_step (L := L) (ws := ws) (k := k) (by rw [← L1.out]; exact hlt))
      have SH := Lib.hid S; clear S
      have d1 : (0:Int) ≤ k := by omega
      have d3 : (k:Int) < nr := by omega
      go_wp2_with (first
        | (go_at_call 101; go_must (refine (Both05 u _ c (allK L ws k) q3 _ c3 (findL L (nth ws k)) _ (S4.out.rd 1 rfl (by omega)) (S4.out.rd 0 rfl (by have := (HF0.out (nth ws k)).1; omega)) (by omega)).mono ?_; rintro e w4 ⟨q4, c4, rfl, T⟩; have S5 := Lib.hid (S4.out.comp T); clear T))
        | (go_at_call 100; go_must (refine (Find05 p np cp hs L (nth ws k) _ (HL.out.ext SH.out.ext) HOK.out).mono ?_; rintro e w3 ⟨q3, c3, rfl, T⟩; have S4 := Lib.hid (SH.out.comp T); clear T)))
      go_roundw
      case rel => exact ⟨k + 1, q4, c4, by omega, by omega, by go_num, by rw [← HST.out], by rw [← HST.out]; exact S5.out.pick [0] (by decide) rfl⟩
      case measure => simp [intOf]; omega
    · have HE : Hid (allK L ws k = allS L ws) := allK_end (by rw [← L1.out]; omega)
      have SH := Lib.hid S; clear S
      go_wp2
      go_ret2
      rw [← HE.out]
      exact ⟨u, c, rfl, SH.out⟩
theorem flat_len {L : List Po} (hok : PoOk L) (ws : List ByteArray) : (ws.flatMap (findL L)).length ≤ 1000 * ws.length := by
  induction ws with
  | nil => simp
  | cons a ws ih => rw [List.flatMap_cons, List.length_append, List.length_cons]; have := (findL_ok hok a).1; omega
theorem flat_step {L : List Po} {ws : List ByteArray} {k : Nat} (h : k < ws.length) : (ws.take (k + 1)).flatMap (findL L) = (ws.take k).flatMap (findL L) ++ findL L (nth ws k) := by
  rw [take_succ_nth ws k h, List.flatMap_append]; simp
theorem All05n (p : Option Addr) (np cp : Nat) (pr : Option Addr) (cr : Nat) (w : World) : Calls Tryz.prog 71 #[.slice p np cp, .slice pr 0 cr] w fun e w' => e = .returned (.tuple #[.slice none 0 0, .int .i64 1]) ∧ Ext w w' := by
  go_enter Tryz.func71, Tryz.ntmps71
  go_wp2
  go_ret2
  exact ⟨rfl, Below.refl _ _⟩
theorem AllG (p : Option Addr) (np cp : Nat) (hs : List Hd) (L : List Po) (pr : Option Addr) (nr cr : Nat) (ws : List ByteArray) (w : World) (hL : RdP w p np hs L) (hok : PoOk L) (hR : Rd w 1 pr nr (encS ws)) (hcr : nr ≤ cr) (h0 : 0 < nr) (hn : nr ≤ 100) :
    Calls Tryz.prog 40 #[.slice p np cp, .slice pr nr cr] w fun e w' => ∃ q c, e = .returned (.tuple #[.slice q (allS L ws).length c, .int .i64 0]) ∧ Sep w w' [.own 3 1 q (allS L ws).length c (encI (allS L ws))] := by
  have HF := Lib.hid (foundAll p np cp hs L pr nr cr ws w hL hok hR hcr h0 hn)
  clear hL hok hR
  go_enter Tryz.func40, Tryz.ntmps40
  go_wp2_with (go_at_call 74; go_must (refine HF.out.mono ?_; rintro e w2 ⟨q1, c1, rfl, T⟩; have S2 := Lib.hid T; clear T))
  go_ret2
  exact ⟨q1, c1, rfl, S2.out⟩
theorem AllGn (p : Option Addr) (np cp : Nat) (pr : Option Addr) (cr : Nat) (w : World) : Calls Tryz.prog 40 #[.slice p np cp, .slice pr 0 cr] w fun e w' => e = .returned (.tuple #[.slice none 0 0, .int .i64 1]) ∧ Ext w w' := by
  go_enter Tryz.func40, Tryz.ntmps40
  go_wp2_with (go_at_call 74; go_must (refine (foundAll0 p np cp pr cr _).mono ?_; rintro e w2 ⟨rfl, T⟩; have S2 := Lib.hid T; clear T))
  go_ret2
  exact ⟨rfl, S2.out⟩
end Go.Proofs.YtkekibnhmfmhmaaGreat
/- Postings in memory of their own; the same; too many; few words. -/
namespace Go.Proofs.YtkekibnhmfmhmaaGreat
open Go Go.RowKit Go.Maps
theorem own_small {w : World} {base : Nat} {e : TypeId} {size : Nat} {q : Option Addr} {n c : Nat} {xs : List Value} (h : w.ownsRow base e size (.slice q n c) n xs) : n ≤ 9223372036854775807 := by
  rcases h.2 with ⟨_, h2⟩ | ⟨g, cap, cur, h1, _, _, h3, h4, _⟩
  · omega
  · unfold maxLen at h4; omega
def encPo (L : List Po) (hs : List Hd) : List Value := (L.zip hs).flatMap fun x => [.string x.1.1, x.2.v]
theorem encPo_len : ∀ (L : List Po) (hs : List Hd), hs.length = L.length → (encPo L hs).length = L.length * 2
  | [], _, _ => by simp [encPo]
  | p :: L, [], h => by simp at h
  | p :: L, a :: hs, h => by
    have := encPo_len L hs (by simpa using h)
    unfold encPo at this ⊢
    rw [List.zip_cons_cons, List.flatMap_cons, List.length_append, this, List.length_cons]; simp; omega
theorem encPo_get : ∀ (L : List Po) (hs : List Hd) (k : Nat), hs.length = L.length → k < L.length → (encPo L hs).getD (k * 2) undef = .string (nth L k).1 ∧ (encPo L hs).getD (k * 2 + 1) undef = (nth hs k).v
  | [], _, k, _, h => by simp at h
  | p :: L, [], _, h, _ => by simp at h
  | p :: L, a :: hs, 0, _, _ => ⟨rfl, rfl⟩
  | p :: L, a :: hs, k + 1, h, hk => by
    have := encPo_get L hs k (by simpa using h) (by simpa using hk)
    have e1 : (k + 1) * 2 = k * 2 + 1 + 1 := by omega
    have e2 : nth (p :: L) (k + 1) = nth L k := rfl
    have e3 : nth (a :: hs) (k + 1) = nth hs k := rfl
    rw [e1, e2, e3]
    exact this
theorem encPo_snoc (L : List Po) (hs : List Hd) (p : Po) (a : Hd) (h : hs.length = L.length) : encPo (L ++ [p]) (hs ++ [a]) = encPo L hs ++ [.string p.1, a.v] := by
  unfold encPo
  rw [List.zip_append h.symm, List.flatMap_append]; rfl
def rowsP (L : List Po) (hs : List Hd) : List (Hd × List Value) := hs.zip (L.map fun p => encI p.2)
theorem rowsP_snoc (L : List Po) (hs : List Hd) (p : Po) (a : Hd) (h : hs.length = L.length) : rowsP (L ++ [p]) (hs ++ [a]) = rowsP L hs ++ [(a, encI p.2)] := by
  unfold rowsP
  rw [List.map_append, List.zip_append (by simpa using h)]; rfl
theorem rowsP_at {L : List Po} {hs : List Hd} {k : Nat} (h : hs.length = L.length) (hk : k < L.length) : (nth hs k, encI (nth L k).2) ∈ rowsP L hs := by
  unfold rowsP
  rw [List.mem_iff_getElem]
  refine ⟨k, by simp; omega, ?_⟩
  rw [List.getElem_zip, nth_eq (by omega), nth_eq hk, List.getElem_map]
theorem RdP.of_sep {w0 w : World} {Γ : List Pc} (S : Sep w0 w Γ) (j i : Nat) {q : Option Addr} {n c : Nat} {hs : List Hd} {L : List Po} (hj : Γ[j]? = some (.many 3 1 (rowsP L hs))) (hi : Γ[i]? = some (.own 98 2 q n c (encPo L hs))) (hl : hs.length = L.length) : RdP w q n hs L := by
  have ho := S.own i hi
  have hr := Rd.of_own ho (own_small ho)
  have hn : n = L.length := by have := ho.1; rw [encPo_len L hs hl] at this; omega
  refine ⟨hn, hr.ptr, hr.small, fun k hk => ?_, fun k hk => ?_, fun k hk => ?_⟩
  · rw [hr.cells (k * 2) (by omega), (encPo_get L hs k hl (by omega)).1]
  · rw [hr.cells (k * 2 + 1) (by omega), (encPo_get L hs k hl (by omega)).2]; rfl
  · have h1 := S.manyAt j hj _ (rowsP_at hl (show k < L.length by omega))
    exact Rd.of_own h1 (own_small h1)
theorem infP : (Tryz.prog.info? 98).map (fun i => (i.zero, i.size, i.bytes)) = some (some (.agg #[.string ByteArray.empty, .slice none 0 0]), 2, 40) := by kernel_rfl
theorem one_P (a : ByteArray) (p : Option Addr) (m d : Nat) : ∀ u ∈ [Value.string a, Value.slice p m d], u.oneCell' = true := by intro u hu; simp at hu; rcases hu with rfl | rfl <;> rfl
set_option maxHeartbeats 1000000 in
theorem Own05 (p : Option Addr) (n c : Nat) (hs : List Hd) (L : List Po) (w : World) (hL : RdP w p n hs L) (hok : PoOk L) (hn : n ≤ 100000) :
    Calls Tryz.prog 28 #[.slice p n c] w fun e w' => ∃ q c' hs', e = .returned (.slice q n c') ∧ RdP w' q n hs' L ∧ Ext w w' := by
  obtain ⟨i0, hi0, hz0, hz1, hz2⟩ := info_parts infP
  have p1 := hL.ptr
  have n1 := hL.small
  have l1 := hL.hn
  have HL := Lib.hid hL; clear hL
  have L1 := Lib.hid l1; clear l1
  have HOK := Lib.hid hok; clear hok
  have S0 := Lib.hid (((Sep.start w).nilrow 98 2).many0 3 1)
  go_enter Tryz.func28, Tryz.ntmps28
  go_wp2
  go_loopw [3, 4, 5] (fun v i _ wr => ∃ (k : Nat) (q : Option Addr) (c' : Nat) (hs' : List Hd), k ≤ n ∧ i = .int .i64 k ∧ v = .slice q k c' ∧ hs'.length = (L.take k).length ∧ Sep w wr [.many 3 1 (rowsP (L.take k) hs'), .own 98 2 q k c' (encPo (L.take k) hs')]) (fun _ i _ _ => n - (intOf i).toNat)
  case atStart => exact ⟨0, none, 0, [], Nat.zero_le _, rfl, rfl, rfl, S0.out⟩
  case round =>
    clear S0
    obtain ⟨k, q, c', hs', hk, rfl, rfl, hlh, S⟩ := hrel
    have HLH := Lib.hid hlh; clear hlh
    by_cases hlt : k < n
    · have g1 := S.ext.cell (HL.out.c1 k hlt)
      have g2 := S.ext.cell (HL.out.c2 k hlt)
      have RE := Lib.hid ((HL.out.each k hlt).ext S.ext)
      have LE := Lib.hid RE.out.nI
      have SH := Lib.hid S; clear S
      have d1 : (0:Int) ≤ k := by omega
      have d2 : (k:Int) < n := by omega
      have hkL : k < L.length := by rw [← L1.out]; exact hlt
      have hlen : (nth hs k).n ≤ 1000 := by rw [LE.out]; exact (HOK.out.at hkL).1
      have HT := Lib.hid (take_succ_nth L k hkL)
      go_wp2_with (first
        | (at_builtin; go_must (refine wpList_append_sep rfl _ _ _ rfl 98 i0 _ 2 40 Tryz.underlying25 hi0 hz0 hz1 hz2 rfl (by omega) (S2.out.junk _) 1 q k c' _ rfl rfl _ 1 1 _ rfl (Rd.new _ _ _ 1 2 rfl (by omega)) (one_P _ _ _ _) (by omega) (by omega) ?_; intro u' e' w4 S' hsz; have S3 := Lib.hid S'; clear S' hsz))
        | (go_at_call 53; go_must (refine (OwnI01 _ _ _ _ _ RE.out (by omega)).mono ?_; rintro e w2 ⟨q2, c2, rfl, T⟩; have S2 := Lib.hid ((SH.out.comp T).gather); have g1 := (SH.out.ext.trans T.ext).cell (HL.out.c1 k hlt); clear T)))
      go_roundw
      case rel => exact ⟨k + 1, u', e', hs' ++ [⟨q2, (nth hs k).n, c2⟩], by omega, by go_num, rfl, by rw [HT.out, List.length_append, List.length_append, HLH.out]; rfl, by rw [HT.out, rowsP_snoc _ _ _ _ HLH.out, encPo_snoc _ _ _ _ HLH.out]; exact S3.out⟩
      case measure => simp [intOf]; omega
    · obtain rfl : k = n := by omega
      have HT : Hid (L.take k = L) := by unfold Hid; rw [List.take_of_length_le (by rw [← L1.out]; omega)]
      rw [HT.out] at HLH
      have HR := Lib.hid (RdP.of_sep S 0 1 (L := L.take k) rfl rfl (by rw [HT.out]; exact HLH.out))
      rw [HT.out] at HR
      have SH := Lib.hid S; clear S
      go_wp2
      go_ret
      exact ⟨q, c', hs', rfl, HR.out, SH.out.ext⟩
end Go.Proofs.YtkekibnhmfmhmaaGreat
/- The library's sort of texts, onto a row of the call's own. -/
namespace Go.Proofs.YtkekibnhmfmhmaaGreat
open Go Go.RowKit Go.Shelf Go.Lib Go.Sort
theorem bl_lt : ∀ a b : List UInt8, Op.bytesLess a b = decide (a < b)
  | [], [] => by simp [Op.bytesLess]
  | [], _ :: _ => by simp [Op.bytesLess]
  | _ :: _, [] => by simp [Op.bytesLess]
  | a :: x, b :: y => by
    have ih := bl_lt x y
    rw [Bool.eq_iff_iff]
    simp only [Op.bytesLess, Bool.or_eq_true, Bool.and_eq_true, decide_eq_true_eq, beq_iff_eq, List.cons_lt_cons_iff]
    rw [ih, decide_eq_true_eq]
def toBA (x : List UInt8) : ByteArray := ⟨x.toArray⟩
theorem toBA_toList (x : List UInt8) : (toBA x).toList = x := by rw [ByteArray.toList_eq]; simp [toBA]
theorem putRow_gen {α : Type} [Inhabited α] (enc : α → Value) (w : World) (g : Nat) (l : List α) : putRow enc w g 0 l.toArray = putRow id w g 0 (l.map enc).toArray := by
  unfold putRow
  congr 1
  funext c
  unfold putCells
  apply Array.ext_getElem?
  intro i
  simp only [Array.getElem?_mapIdx]
  cases c[i]? with
  | none => rfl
  | some v =>
    simp only [Option.map_some]
    by_cases h : i < l.length
    · simp [h]
    · simp [h]
def sortT (l : List ByteArray) : List ByteArray := ((l.map fun s => s.data.toList).mergeSort fun x y => decide (x ≤ y)).map toBA
theorem sortT_len (l : List ByteArray) : (sortT l).length = l.length := by simp [sortT]
theorem toBA_data (s : ByteArray) : toBA s.data.toList = s := by simp [toBA]
theorem sortT_perm (l : List ByteArray) : (sortT l).Perm l := by
  unfold sortT
  have h := (List.mergeSort_perm (l.map fun s : ByteArray => s.data.toList) fun x y => decide (x ≤ y)).map toBA
  rw [List.map_map] at h
  have e : (toBA ∘ fun s : ByteArray => s.data.toList) = id := by funext s; exact toBA_data s
  rw [e, List.map_id] at h
  exact h
theorem sortT_rises {l : List ByteArray} (h : l.Nodup) : Rises sLess (sortT l) := by
  have h2 : (sortT l).Nodup := (sortT_perm l).nodup_iff.2 h
  have h1 : (sortT l).Pairwise fun a b => sLess b a = false := by
    unfold sortT
    rw [List.pairwise_map]
    have := List.pairwise_mergeSort (le := fun x y : List UInt8 => decide (x ≤ y)) (fun a b c h k => by simp only [decide_eq_true_eq] at *; exact List.le_trans h k) (fun a b => by simp only [Bool.or_eq_true, decide_eq_true_eq]; exact List.le_total a b) (l.map fun s : ByteArray => s.data.toList)
    refine this.imp ?_
    intro a b hab
    simp only [decide_eq_true_eq] at hab
    show Op.bytesLess (toBA b).toList (toBA a).toList = false
    rw [toBA_toList, toBA_toList, bl_lt]
    simpa using hab
  refine (h1.and h2).imp ?_
  rintro a b ⟨h3, h4⟩
  cases h5 : sLess a b with
  | true => rfl
  | false => exact (h4 (sLess_tri a b h5 h3)).elim
theorem sortT_put {l s : List ByteArray} (h : l.Nodup) (hm : ∀ x, x ∈ l ↔ x ∈ s) : sortT l = putAll sLess s :=
  rises_uniq stoS _ _ (sortT_rises h) (putAll_rises stoS s) fun x => by rw [(sortT_perm l).mem_iff, hm, putAll_mem stoS]
end Go.Proofs.YtkekibnhmfmhmaaGreat
/- What postings of a graph's words are: gathered word by word, or by definition. No program in sight. -/
namespace Go.Proofs.YtkekibnhmfmhmaaGreat
open Go Go.RowKit
/-- a place has a word: all such, in their order -/
abbrev Occ := Int × ByteArray
def occR (v : Nat) (l : List ByteArray) : List Occ := l.map fun s => ((v : Int), s)
def occK (W : List (List ByteArray)) (k : Nat) : List Occ := (List.range k).flatMap fun v => occR v (nth W v)
theorem occK_step (W : List (List ByteArray)) (k : Nat) : occK W (k + 1) = occK W k ++ occR k (nth W k) := by
  unfold occK; rw [List.range_succ, List.flatMap_append]; simp
theorem occR_len (v : Nat) (l : List ByteArray) : (occR v l).length = l.length := by simp [occR]
theorem occR_take (v : Nat) (l : List ByteArray) (j : Nat) (h : j < l.length) : occR v (l.take (j + 1)) = occR v (l.take j) ++ [((v : Int), nth l j)] := by
  unfold occR; rw [take_succ_nth l j h, List.map_append]; rfl
theorem occK_len {W : List (List ByteArray)} (h : ∀ l ∈ W, l.length ≤ 8) : ∀ k, k ≤ W.length → (occK W k).length ≤ 8 * k
  | 0, _ => by simp [occK]
  | k + 1, hk => by
    rw [occK_step, List.length_append, occR_len]
    have := occK_len h k (by omega)
    have h2 := h (nth W k) (by rw [nth_eq (by omega)]; exact List.getElem_mem _)
    omega
theorem occK_mem {W : List (List ByteArray)} {s : ByteArray} : (∃ x ∈ occK W W.length, x.2 = s) ↔ s ∈ W.flatten := by
  unfold occK occR
  simp only [List.mem_flatMap, List.mem_range, List.mem_map, List.mem_flatten]
  constructor
  · rintro ⟨x, ⟨v, hv, t, ht, rfl⟩, rfl⟩
    exact ⟨nth W v, by rw [nth_eq hv]; exact List.getElem_mem _, ht⟩
  · rintro ⟨l, hl, hs⟩
    obtain ⟨v, hv, rfl⟩ := List.mem_iff_getElem.1 hl
    exact ⟨((v : Int), s), ⟨v, hv, s, by rw [nth_eq hv]; exact hs, rfl⟩, rfl⟩
/-- a word's places -/
def plc (O : List Occ) (s : ByteArray) : List Int := (O.filter fun x => decide (x.2 = s)).map (·.1)
theorem plc_snoc (O : List Occ) (v : Int) (t s : ByteArray) : plc (O ++ [(v, t)]) s = if t = s then plc O s ++ [v] else plc O s := by
  unfold plc
  rw [List.filter_append, List.filter_cons]
  by_cases h : t = s <;> simp [h]
theorem plc_len (O : List Occ) (s : ByteArray) : (plc O s).length ≤ O.length := by unfold plc; rw [List.length_map]; exact List.length_filter_le _ _
theorem plc_nil {O : List Occ} {s : ByteArray} : plc O s = [] ↔ ∀ x ∈ O, x.2 ≠ s := by
  unfold plc
  rw [List.map_eq_nil_iff, List.filter_eq_nil_iff]
  simp
theorem nodup_ne {α : Type} {l : List α} (h : l.Nodup) {i j : Nat} (hi : i < l.length) (hj : j < l.length) (hne : i ≠ j) : l[i] ≠ l[j] := by
  rcases Nat.lt_or_gt_of_ne hne with h1 | h1
  · exact List.pairwise_iff_getElem.1 h i j hi hj h1
  · exact (List.pairwise_iff_getElem.1 h j i hj hi h1).symm
/-- what is gathered of the occurrences -/
structure Gath (O : List Occ) (A : List Po) : Prop where
  nodup : (A.map (·.1)).Nodup
  keys : ∀ s, s ∈ A.map (·.1) ↔ ∃ x ∈ O, x.2 = s
  at_ : ∀ p ∈ A, p.2 = plc O p.1
theorem Gath.nil : Gath [] [] := ⟨List.nodup_nil, fun s => by simp, fun p hp => by cases hp⟩
theorem Gath.new {O : List Occ} {A : List Po} (h : Gath O A) {v : Int} {s : ByteArray} (hs : s ∉ A.map (·.1)) : Gath (O ++ [(v, s)]) (A ++ [(s, [v])]) := by
  have hno : ∀ x ∈ O, x.2 ≠ s := fun x hx e => hs ((h.keys s).2 ⟨x, hx, e⟩)
  refine ⟨?_, fun t => ?_, fun p hp => ?_⟩
  · rw [List.map_append, List.nodup_append]
    refine ⟨h.nodup, by simp, fun a ha b hb => ?_⟩
    simp at hb; subst hb; rintro rfl; exact hs ha
  · rw [List.map_append, List.mem_append, h.keys t]
    constructor
    · rintro (⟨x, hx, e⟩ | ht)
      · exact ⟨x, List.mem_append_left _ hx, e⟩
      · simp at ht; subst ht; exact ⟨(v, t), by simp, rfl⟩
    · rintro ⟨x, hx, e⟩
      rcases List.mem_append.1 hx with hx | hx
      · exact .inl ⟨x, hx, e⟩
      · rw [List.mem_singleton] at hx; subst hx; right; simp [e.symm]
  · rw [plc_snoc]
    rcases List.mem_append.1 hp with hp1 | hp1
    · have hne : s ≠ p.1 := fun e => hs (by rw [e]; exact List.mem_map_of_mem hp1)
      rw [if_neg hne]; exact h.at_ p hp1
    · rw [List.mem_singleton] at hp1; subst hp1
      rw [if_pos rfl, plc_nil.2 hno]; rfl
theorem Gath.more {O : List Occ} {A : List Po} (h : Gath O A) {v : Int} {r : Nat} (hr : r < A.length) : Gath (O ++ [(v, (nth A r).1)]) (A.set r ((nth A r).1, (nth A r).2 ++ [v])) := by
  have hmap : (A.set r ((nth A r).1, (nth A r).2 ++ [v])).map (·.1) = A.map (·.1) := by
    rw [List.map_set]
    have e : (nth A r).1 = (A.map (·.1))[r]'(by simpa using hr) := by rw [nth_eq hr, List.getElem_map]
    show (A.map (·.1)).set r (nth A r).1 = _
    rw [e, List.set_getElem_self]
  refine ⟨by rw [hmap]; exact h.nodup, fun t => ?_, fun p hp => ?_⟩
  · rw [hmap, h.keys t]
    constructor
    · rintro ⟨x, hx, e⟩; exact ⟨x, List.mem_append_left _ hx, e⟩
    · rintro ⟨x, hx, e⟩
      rcases List.mem_append.1 hx with hx | hx
      · exact ⟨x, hx, e⟩
      · rw [List.mem_singleton] at hx; subst hx
        have : t ∈ A.map (·.1) := by rw [← e, nth_eq hr]; exact List.mem_map_of_mem (List.getElem_mem _)
        exact (h.keys t).1 this
  · rw [plc_snoc]
    obtain ⟨i, hi, rfl⟩ := List.mem_iff_getElem.1 hp
    rw [List.length_set] at hi
    rw [List.getElem_set]
    by_cases e : r = i
    · rw [if_pos e, if_pos rfl]
      rw [← h.at_ (nth A r) (by rw [nth_eq hr]; exact List.getElem_mem _)]
    · rw [if_neg e]
      have hne : (nth A r).1 ≠ A[i].1 := by
        rw [nth_eq hr]
        intro he
        exact nodup_ne h.nodup (i := r) (j := i) (by simpa using hr) (by simpa using hi) e (by simpa using he)
      rw [if_neg hne]; exact h.at_ _ (List.getElem_mem _)
/-- the postings of a graph's words -/
def makeP (W : List (List ByteArray)) : List Po := (putAll sLess W.flatten).map fun s => (s, plc (occK W W.length) s)
theorem Gath.sorted {W : List (List ByteArray)} {A : List Po} (h : Gath (occK W W.length) A) : sortT (A.map (·.1)) = putAll sLess W.flatten :=
  sortT_put h.nodup fun s => by rw [h.keys s, occK_mem]
theorem Gath.find {O : List Occ} {A : List Po} (h : Gath O A) {s : ByteArray} (hs : s ∈ A.map (·.1)) : ∃ r, r < A.length ∧ (nth A r).1 = s ∧ (nth A r).2 = plc O s := by
  obtain ⟨p, hp, rfl⟩ := List.mem_map.1 hs
  obtain ⟨r, hr, rfl⟩ := List.mem_iff_getElem.1 hp
  refine ⟨r, hr, by rw [nth_eq hr], ?_⟩
  rw [nth_eq hr]; exact h.at_ _ hp
theorem nodup_len {α : Type} [DecidableEq α] : ∀ {l m : List α}, l.Nodup → (∀ x ∈ l, x ∈ m) → l.length ≤ m.length
  | [], _, _, _ => by simp
  | a :: l, m, h, hm => by
    obtain ⟨h1, h2⟩ := List.nodup_cons.1 h
    have ha := hm a (by simp)
    have ih := nodup_len (m := m.erase a) h2 fun x hx => (List.mem_erase_of_ne (fun e => h1 (by rw [← e]; exact hx))).2 (hm x (by simp [hx]))
    rw [List.length_erase_of_mem ha] at ih
    have := List.length_pos_of_mem ha
    rw [List.length_cons]; omega
theorem Gath.len {O : List Occ} {A : List Po} (h : Gath O A) : A.length ≤ O.length := by
  have h1 := nodup_len (m := O.map (·.2)) h.nodup fun s hs => by
    obtain ⟨x, hx, e⟩ := (h.keys s).1 hs
    exact e ▸ List.mem_map_of_mem hx
  simpa using h1
end Go.Proofs.YtkekibnhmfmhmaaGreat
/- The next level's places, gone through in their order, each once. -/
namespace Go.Proofs.YtkekibnhmfmhmaaGreat
open Go Go.RowKit
/-- one place that a way leads to -/
def ah1 (X : List Int) (l : List Int) (w : Int) : List Int := if nth X w.toNat < 0 ∧ w ∉ l then l ++ [w] else l
def ahR (X : List Int) (m : List Int) (l : List Int) : List Int := m.foldl (ah1 X) l
def ahF (nx : Nat → List Int) (X : List Int) (F : List Int) (l : List Int) : List Int := F.foldl (fun l v => ahR X (nx v.toNat) l) l
theorem ahR_take {X m l : List Int} {j : Nat} (h : j < m.length) : ahR X (m.take (j + 1)) l = ah1 X (ahR X (m.take j) l) (nth m j) := by
  unfold ahR; rw [take_succ_nth m j h, List.foldl_append]; rfl
theorem ahF_take {nx : Nat → List Int} {X F l : List Int} {j : Nat} (h : j < F.length) : ahF nx X (F.take (j + 1)) l = ahR X (nx (nth F j).toNat) (ahF nx X (F.take j) l) := by
  unfold ahF; rw [take_succ_nth F j h, List.foldl_append]; rfl
theorem ah1_mem {X l : List Int} {w x : Int} : x ∈ ah1 X l w ↔ x ∈ l ∨ (x = w ∧ nth X w.toNat < 0) := by
  unfold ah1
  split
  · rename_i h
    rw [List.mem_append, List.mem_singleton]
    constructor
    · rintro (h1 | h1)
      · exact .inl h1
      · exact .inr ⟨h1, h.1⟩
    · rintro (h1 | h1)
      · exact .inl h1
      · exact .inr h1.1
  · rename_i h
    constructor
    · exact .inl
    · rintro (h1 | ⟨h1, h2⟩)
      · exact h1
      · subst h1
        by_cases h3 : x ∈ l
        · exact h3
        · exact absurd ⟨h2, h3⟩ h
theorem ahR_mem {X : List Int} {x : Int} : ∀ {m l : List Int}, x ∈ ahR X m l ↔ x ∈ l ∨ (x ∈ m ∧ nth X x.toNat < 0)
  | [], l => by simp [ahR]
  | a :: m, l => by
    have := ahR_mem (X := X) (x := x) (m := m) (l := ah1 X l a)
    unfold ahR at *
    rw [List.foldl_cons, this, ah1_mem, List.mem_cons]
    constructor
    · rintro ((h | ⟨rfl, h⟩) | h)
      · exact .inl h
      · exact .inr ⟨.inl rfl, h⟩
      · exact .inr ⟨.inr h.1, h.2⟩
    · rintro (h | ⟨rfl | h, h2⟩)
      · exact .inl (.inl h)
      · exact .inl (.inr ⟨rfl, h2⟩)
      · exact .inr ⟨h, h2⟩
theorem ahF_mem {nx : Nat → List Int} {X : List Int} {x : Int} : ∀ {F l : List Int}, x ∈ ahF nx X F l ↔ x ∈ l ∨ (∃ v ∈ F, x ∈ nx v.toNat ∧ nth X x.toNat < 0)
  | [], l => by simp [ahF]
  | a :: F, l => by
    have := ahF_mem (nx := nx) (X := X) (x := x) (F := F) (l := ahR X (nx a.toNat) l)
    unfold ahF at *
    rw [List.foldl_cons, this, ahR_mem]
    constructor
    · rintro ((h | h) | ⟨v, h1, h2⟩)
      · exact .inl h
      · exact .inr ⟨a, List.mem_cons_self .., h⟩
      · exact .inr ⟨v, List.mem_cons_of_mem _ h1, h2⟩
    · rintro (h | ⟨v, h1, h2⟩)
      · exact .inl (.inl h)
      · rcases List.mem_cons.1 h1 with rfl | h1
        · exact .inl (.inr h2)
        · exact .inr ⟨v, h1, h2⟩
theorem ah1_nodup {X l : List Int} {w : Int} (h : l.Nodup) : (ah1 X l w).Nodup := by
  unfold ah1
  split
  · rename_i h1
    rw [List.nodup_append]
    exact ⟨h, by simp, fun a ha b hb e => by rw [List.mem_singleton] at hb; subst hb; subst e; exact h1.2 ha⟩
  · exact h
theorem ahR_nodup {X : List Int} : ∀ {m l : List Int}, l.Nodup → (ahR X m l).Nodup
  | [], _, h => h
  | a :: m, l, h => by
    have := ahR_nodup (X := X) (m := m) (ah1_nodup (X := X) (w := a) h)
    unfold ahR at *
    exact this
theorem ahF_nodup {nx : Nat → List Int} {X : List Int} : ∀ {F l : List Int}, l.Nodup → (ahF nx X F l).Nodup
  | [], _, h => h
  | a :: F, l, h => by
    have := ahF_nodup (nx := nx) (X := X) (F := F) (ahR_nodup (X := X) (m := nx a.toNat) h)
    unfold ahF at *
    exact this
/-- numbers of places, each once: no more than places -/
theorem nodup_small {l : List Int} {n : Nat} (h : l.Nodup) (hb : ∀ x ∈ l, 0 ≤ x ∧ x < n) : l.length ≤ n := by
  have := nodup_len (m := (List.range n).map fun v : Nat => (v : Int)) h fun x hx => by
    obtain ⟨h1, h2⟩ := hb x hx
    rw [List.mem_map]
    exact ⟨x.toNat, List.mem_range.2 (by omega), by omega⟩
  simpa using this
/-- one level's places -/
def IsFront (f : Nat → Int) (n : Nat) (k : Int) (F : List Int) : Prop := F.Nodup ∧ ∀ x, x ∈ F ↔ 0 ≤ x ∧ x < n ∧ f x.toNat = k
/-- rows lead to places -/
def InN (nx : Nat → List Int) (n : Nat) : Prop := ∀ u, u < n → ∀ x ∈ nx u, 0 ≤ x ∧ x < n
theorem front_next {nx : Nat → List Int} {n s : Nat} (hs : s < n) (hin : InN nx n) {k : Nat} {F X : List Int} (hF : IsFront (lev nx n s) n k F)
    (hX : ∀ v, v < n → (nth X v < 0 ↔ ¬ (0 ≤ lev nx n s v ∧ lev nx n s v ≤ k))) : IsFront (lev nx n s) n (k + 1 : Nat) (ahF nx X F []) := by
  refine ⟨ahF_nodup List.nodup_nil, fun x => ?_⟩
  rw [ahF_mem]
  have L := lev_ok nx n s hs
  constructor
  · rintro (h | ⟨v, h1, h2, h3⟩)
    · cases h
    · obtain ⟨g1, g2, g3⟩ := (hF.2 v).1 h1
      obtain ⟨g4, g5⟩ := hin v.toNat (by omega) x h2
      have g6 := (hX x.toNat (by omega)).1 h3
      have g7 := L.next v.toNat x.toNat (by omega) (by omega) (by rw [Int.toNat_of_nonneg g4]; exact h2) (by omega)
      exact ⟨g4, g5, by omega⟩
  · rintro ⟨h1, h2, h3⟩
    obtain ⟨u, hu, g1, g2⟩ := L.pred x.toNat (by omega) (by omega)
    rw [Int.toNat_of_nonneg h1] at g2
    refine .inr ⟨(u : Int), (hF.2 u).2 ⟨by omega, by omega, by rw [Int.toNat_natCast]; omega⟩, by rw [Int.toNat_natCast]; exact g2, (hX x.toNat (by omega)).2 (by omega)⟩
theorem front_0 {nx : Nat → List Int} {n s : Nat} (hs : s < n) : IsFront (lev nx n s) n 0 [(s : Int)] := by
  refine ⟨by simp, fun x => ?_⟩
  rw [List.mem_singleton]
  have L := lev_ok nx n s hs
  constructor
  · rintro rfl
    exact ⟨by omega, by omega, by rw [Int.toNat_natCast]; exact (L.zero s hs).2 rfl⟩
  · rintro ⟨h1, h2, h3⟩
    have := (L.zero x.toNat (by omega)).1 h3
    omega
/-- levels up to k, as a row -/
def cutL (f : Nat → Int) (n : Nat) (k : Int) : List Int := (List.range n).map fun v => cut f k v
theorem cutL_len (f : Nat → Int) (n : Nat) (k : Int) : (cutL f n k).length = n := by simp [cutL]
theorem cutL_nth {f : Nat → Int} {n : Nat} {k : Int} {v : Nat} (hv : v < n) : nth (cutL f n k) v = cut f k v := by
  rw [nth_eq (by rw [cutL_len]; exact hv)]; simp [cutL]
/-- the level's places set -/
def tkR (c : Int) (m : List Int) (X : List Int) : List Int := m.foldl (fun X w => X.set w.toNat c) X
theorem tkR_take {c : Int} {X m : List Int} {j : Nat} (h : j < m.length) : tkR c (m.take (j + 1)) X = (tkR c (m.take j) X).set (nth m j).toNat c := by
  unfold tkR; rw [take_succ_nth m j h, List.foldl_append]; rfl
theorem tkR_len {c : Int} : ∀ {m X : List Int}, (tkR c m X).length = X.length
  | [], X => rfl
  | a :: m, X => by
    have := tkR_len (c := c) (m := m) (X := X.set a.toNat c)
    unfold tkR at *
    rw [List.foldl_cons, this, List.length_set]
theorem tkR_nth {c : Int} {v : Nat} : ∀ {m X : List Int}, (∀ x ∈ m, 0 ≤ x ∧ x < X.length) → nth (tkR c m X) v = if (v : Int) ∈ m then c else nth X v
  | [], X, _ => by simp [tkR]
  | a :: m, X, h => by
    have h0 := h a (List.mem_cons_self ..)
    have := tkR_nth (c := c) (v := v) (m := m) (X := X.set a.toNat c) (fun x hx => by rw [List.length_set]; exact h x (List.mem_cons_of_mem _ hx))
    unfold tkR at *
    rw [List.foldl_cons, this, nth_set _ _ _ _ (by omega)]
    simp only [List.mem_cons]
    by_cases h1 : (v : Int) ∈ m
    · simp [h1]
    · by_cases h2 : v = a.toNat
      · rw [if_neg h1, if_pos h2, if_pos (.inl (by omega))]
      · rw [if_neg h1, if_neg h2, if_neg]
        rintro (h3 | h3)
        · omega
        · exact h1 h3
theorem take_cut {f : Nat → Int} {n : Nat} {k : Nat} {m : List Int} (hm : IsFront f n (k + 1 : Nat) m) : tkR ((k : Int) + 1) m (cutL f n k) = cutL f n (k + 1 : Nat) := by
  apply List.ext_getElem
  · rw [tkR_len, cutL_len, cutL_len]
  · intro v h1 h2
    have hv : v < n := by rw [cutL_len] at h2; exact h2
    rw [← nth_eq h1, ← nth_eq h2, cutL_nth hv, tkR_nth (fun x hx => by have := (hm.2 x).1 hx; rw [cutL_len]; omega), cutL_nth hv]
    have h3 := hm.2 (v : Int)
    rw [Int.toNat_natCast] at h3
    unfold cut
    by_cases h4 : (v : Int) ∈ m
    · have := h3.1 h4
      rw [if_pos h4, if_pos (by omega)]; omega
    · have : ¬ f v = ((k + 1 : Nat) : Int) := fun e => h4 (h3.2 ⟨by omega, by omega, e⟩)
      rw [if_neg h4]
      by_cases h5 : 0 ≤ f v ∧ f v ≤ k
      · rw [if_pos h5, if_pos (by omega)]
      · rw [if_neg h5, if_neg (by omega)]
theorem cut_0 {nx : Nat → List Int} {n s : Nat} (hs : s < n) : cutL (lev nx n s) n 0 = bf0 n s := by
  apply List.ext_getElem
  · rw [cutL_len]; simp [bf0]
  · intro v h1 h2
    have hv : v < n := by rw [cutL_len] at h1; exact h1
    rw [← nth_eq h1, ← nth_eq h2, cutL_nth hv, bf0_nth hs v hv]
    have L := (lev_ok nx n s hs).zero v hv
    unfold cut
    by_cases h : v = s
    · rw [if_pos h, if_pos (by have := L.2 h; omega)]; exact L.2 h
    · have : ¬ lev nx n s v = 0 := fun e => h (L.1 e)
      rw [if_neg h, if_neg (by omega)]
theorem cut_lt {f : Nat → Int} {k : Int} {v : Nat} : cut f k v < 0 ↔ ¬ (0 ≤ f v ∧ f v ≤ k) := by
  have := cut_ge (f := f) (k := k) (v := v); omega
end Go.Proofs.YtkekibnhmfmhmaaGreat
/- The shortest walk over places that both searches have; how both searches go on. -/
namespace Go.Proofs.YtkekibnhmfmhmaaGreat
open Go Go.RowKit
def best1 (X Y : List Int) (s : Int × Bool) (v : Nat) : Int × Bool := if 0 ≤ nth X v ∧ 0 ≤ nth Y v ∧ (s.2 = false ∨ nth X v + nth Y v < s.1) then (nth X v + nth Y v, true) else s
def bestR (X Y : List Int) (k : Nat) : Int × Bool := (List.range k).foldl (best1 X Y) (0, false)
theorem bestR_succ (X Y : List Int) (k : Nat) : bestR X Y (k + 1) = best1 X Y (bestR X Y k) k := by
  unfold bestR; rw [List.range_succ, List.foldl_append]; rfl
theorem bestR_is (X Y : List Int) : ∀ k, ((bestR X Y k).2 = false → (bestR X Y k).1 = 0 ∧ ∀ v, v < k → ¬ (0 ≤ nth X v ∧ 0 ≤ nth Y v)) ∧
    ((bestR X Y k).2 = true → (∃ v, v < k ∧ 0 ≤ nth X v ∧ 0 ≤ nth Y v ∧ (bestR X Y k).1 = nth X v + nth Y v) ∧ ∀ v, v < k → 0 ≤ nth X v → 0 ≤ nth Y v → (bestR X Y k).1 ≤ nth X v + nth Y v)
  | 0 => ⟨fun _ => ⟨rfl, fun v hv => by omega⟩, fun h => by cases h⟩
  | k + 1 => by
    obtain ⟨h1, h2⟩ := bestR_is X Y k
    rw [bestR_succ]
    generalize bestR X Y k = s at *
    obtain ⟨m, b⟩ := s
    unfold best1
    by_cases hc : 0 ≤ nth X k ∧ 0 ≤ nth Y k ∧ (b = false ∨ nth X k + nth Y k < m)
    · rw [if_pos hc]
      refine ⟨fun h => by (simp at h), fun _ => ⟨⟨k, by omega, hc.1, hc.2.1, rfl⟩, fun v hv g1 g2 => ?_⟩⟩
      by_cases hv' : v = k
      · subst hv'; exact Int.le_refl _
      · cases b with
        | false => exact absurd ⟨g1, g2⟩ ((h1 rfl).2 v (by omega))
        | true =>
          have := (h2 rfl).2 v (by omega) g1 g2
          rcases hc.2.2 with h | h
          · cases h
          · simp only at this ⊢; omega
    · rw [if_neg hc]
      cases b with
      | false =>
        refine ⟨fun _ => ⟨(h1 rfl).1, fun v hv g => ?_⟩, fun h => by cases h⟩
        by_cases hv' : v = k
        · subst hv'; exact hc ⟨g.1, g.2, .inl rfl⟩
        · exact (h1 rfl).2 v (by omega) g
      | true =>
        refine ⟨fun h => (by cases h), fun _ => ⟨?_, fun v hv g1 g2 => ?_⟩⟩
        · obtain ⟨v, hv, g⟩ := (h2 rfl).1
          exact ⟨v, by omega, g⟩
        · by_cases hv' : v = k
          · subst hv'
            apply Classical.byContradiction
            intro hlt
            exact hc ⟨g1, g2, .inr (by simp only at hlt ⊢; omega)⟩
          · exact (h2 rfl).2 v (by omega) g1 g2
section
variable {nx nb : Nat → List Int} {n s t : Nat} (h : Rev nx nb n) (hs : s < n) (ht : t < n)
include h hs ht in
/-- what both searches have when they have taken k steps -/
theorem best_lev {k : Nat} (_ : 0 ≤ lev nx n s t → 2 * (k:Int) ≤ lev nx n s t + 1) :
    (meetB n (lev nx n s) (lev nb n t) k = true → bestR (cutL (lev nx n s) n k) (cutL (lev nb n t) n k) n = (lev nx n s t, true)) ∧
    (meetB n (lev nx n s) (lev nb n t) k = false → bestR (cutL (lev nx n s) n k) (cutL (lev nb n t) n k) n = (0, false)) := by
  obtain ⟨h1, h2⟩ := bestR_is (cutL (lev nx n s) n k) (cutL (lev nb n t) n k) n
  generalize hb : bestR (cutL (lev nx n s) n k) (cutL (lev nb n t) n k) n = b at *
  obtain ⟨m, o⟩ := b
  constructor
  · intro hm
    obtain ⟨g1, g2⟩ := (meet_lev h hs ht).1 hm
    have hex : ∃ v, v < n ∧ lev nx n s v ≤ k ∧ 0 ≤ lev nx n s v ∧ lev nb n t v ≤ k ∧ 0 ≤ lev nb n t v ∧ lev nx n s v + lev nb n t v = lev nx n s t := by
      by_cases h3 : lev nx n s t ≤ k
      · obtain ⟨v, hv, e1, e2⟩ := lev_mid h hs ht (j := (lev nx n s t).toNat) g1 (by omega)
        exact ⟨v, hv, by omega, by omega, by omega, by omega, by omega⟩
      · obtain ⟨v, hv, e1, e2⟩ := lev_mid h hs ht (j := k) g1 (by omega)
        exact ⟨v, hv, by omega, by omega, by omega, by omega, by omega⟩
    obtain ⟨v, hv, e1, e2, e3, e4, e5⟩ := hex
    have c1 : nth (cutL (lev nx n s) n k) v = lev nx n s v := by rw [cutL_nth hv]; unfold cut; rw [if_pos ⟨e2, e1⟩]
    have c2 : nth (cutL (lev nb n t) n k) v = lev nb n t v := by rw [cutL_nth hv]; unfold cut; rw [if_pos ⟨e4, e3⟩]
    cases o with
    | false => exact absurd ⟨by rw [c1]; exact e2, by rw [c2]; exact e4⟩ ((h1 rfl).2 v hv)
    | true =>
      obtain ⟨⟨u, hu, f1, f2, f3⟩, f4⟩ := h2 rfl
      have f5 := f4 v hv (by rw [c1]; exact e2) (by rw [c2]; exact e4)
      rw [c1, c2] at f5
      rw [cutL_nth hu] at f1 f3
      rw [cutL_nth hu] at f2 f3
      have f6 := cut_eq f1
      have f7 := cut_eq f2
      have f8 := lev_over h hs ht hu (by rw [← f6]; exact f1) (by rw [← f7]; exact f2)
      simp only at f3 f5
      have : m = lev nx n s t := by omega
      rw [this]
  · intro hm
    cases o with
    | false => rw [show m = 0 from (h1 rfl).1]
    | true =>
      obtain ⟨⟨u, hu, f1, f2, _⟩, _⟩ := h2 rfl
      rw [cutL_nth hu] at f1
      rw [cutL_nth hu] at f2
      have f3 := cut_ge.1 f1
      have f4 := cut_ge.1 f2
      rw [meetB_iff.2 ⟨u, hu, f3.1, f3.2, f4.1, f4.2⟩] at hm
      cases hm
theorem front_has {f : Nat → Int} {k : Int} {F : List Int} (hF : IsFront f n k F) : (hasL n f k = true ↔ 0 < F.length) := by
  rw [hasL_iff]
  constructor
  · rintro ⟨v, hv, e⟩
    exact List.length_pos_of_mem ((hF.2 (v : Int)).2 ⟨by omega, by omega, by rw [Int.toNat_natCast]; exact e⟩)
  · intro h
    obtain ⟨x, hx⟩ := List.exists_mem_of_length_pos h
    obtain ⟨h1, h2, h3⟩ := (hF.2 x).1 hx
    exact ⟨x.toNat, by omega, h3⟩
end
/-- how far, and whether -/
def distN (d : Int) : Int := if 0 ≤ d then d else 0
def distB (d : Int) : Bool := decide (0 ≤ d)
theorem stepsK_meet {n m k : Nat} {f g : Nat → Int} (h : meetB n f g k = true) : stepsK n f g (m + 1) k = k := by unfold stepsK; rw [if_pos h]
theorem stepsK_end {n m k : Nat} {f g : Nat → Int} (h : meetB n f g k = false) (h2 : ¬ (hasL n f (k + 1) = true ∧ hasL n g (k + 1) = true)) : stepsK n f g (m + 1) k = k := by
  unfold stepsK; rw [if_neg (by rw [h]; simp), if_neg h2]
theorem stepsK_go {n m k : Nat} {f g : Nat → Int} (h : meetB n f g k = false) (h2 : hasL n f (k + 1) = true ∧ hasL n g (k + 1) = true) : stepsK n f g (m + 1) k = stepsK n f g m (k + 1) := by
  conv => lhs; unfold stepsK
  rw [if_neg (by rw [h]; simp), if_pos h2]
end Go.Proofs.YtkekibnhmfmhmaaGreat
/- The path from place to place, in plain words. -/
namespace Go.Proofs.YtkekibnhmfmhmaaGreat
open Go Go.RowKit
section
variable {nx nb : Nat → List Int} {n t : Nat} (h : Rev nx nb n) (ht : t < n) (hin : InN nx n)
include h ht hin in
/-- a place that is a step nearer is there -/
theorem stepL_is {u k : Nat} (hu : u < n) (hk : lev nb n t u = (k + 1 : Nat)) : ∃ x, (nx u).find? (fun x => lev nb n t x.toNat == lev nb n t u - 1) = some x ∧ x ∈ nx u ∧ 0 ≤ x ∧ x < n ∧ stepL nx (lev nb n t) u = x.toNat ∧ lev nb n t x.toNat = k := by
  obtain ⟨y, hy, h1, h2⟩ := (lev_ok nb n t ht).pred u hu (by omega)
  have h3 := (h u y hu hy).2 h2
  cases hf : (nx u).find? (fun x => lev nb n t x.toNat == lev nb n t u - 1) with
  | none =>
    have := List.find?_eq_none.1 hf (y : Int) h3
    rw [Int.toNat_natCast] at this
    exact absurd (by simpa using h1) this
  | some x =>
    have hx := List.mem_of_find?_eq_some hf
    have hp := List.find?_some hf
    have hb := hin u hu x hx
    refine ⟨x, rfl, hx, hb.1, hb.2, ?_, ?_⟩
    · unfold stepL; rw [hf]; rfl
    · have : lev nb n t x.toNat = lev nb n t u - 1 := by simpa using hp
      omega
include h ht hin in
theorem pathL_at : ∀ (k u : Nat), u < n → lev nb n t u = k → ∀ i, i ≤ k → nth (pathL nx (lev nb n t) k u) i < n ∧ lev nb n t (nth (pathL nx (lev nb n t) k u) i) = ((k - i : Nat) : Int) ∧
    (pathL nx (lev nb n t) k u).drop i = pathL nx (lev nb n t) (k - i) (nth (pathL nx (lev nb n t) k u) i)
  | 0, u, hu, hk, i, hi => by
    obtain rfl : i = 0 := by omega
    exact ⟨hu, hk, rfl⟩
  | k + 1, u, hu, hk, 0, _ => ⟨hu, hk, rfl⟩
  | k + 1, u, hu, hk, i + 1, hi => by
    obtain ⟨x, _, _, h2, h3, h4, h5⟩ := stepL_is h ht hin hu hk
    have := pathL_at k x.toNat (by omega) h5 i (by omega)
    rw [pathL, h4]
    rw [show k + 1 - (i + 1) = k - i by omega]
    exact this
include h ht hin in
theorem pathL_next {k u : Nat} (hu : u < n) (hk : lev nb n t u = k) {i : Nat} (hi : i < k) : ((nth (pathL nx (lev nb n t) k u) (i + 1) : Nat) : Int) ∈ nx (nth (pathL nx (lev nb n t) k u) i) ∧
    nth (pathL nx (lev nb n t) k u) (i + 1) = stepL nx (lev nb n t) (nth (pathL nx (lev nb n t) k u) i) := by
  obtain ⟨h1, h2, h3⟩ := pathL_at h ht hin k u hu hk i (by omega)
  obtain ⟨j, hj⟩ : ∃ j, k - i = j + 1 := ⟨k - i - 1, by omega⟩
  rw [hj] at h2 h3
  obtain ⟨x, _, g1, g2, g3, g4, g5⟩ := stepL_is h ht hin h1 h2
  have e : nth (pathL nx (lev nb n t) k u) (i + 1) = stepL nx (lev nb n t) (nth (pathL nx (lev nb n t) k u) i) := by
    have e1 : nth ((pathL nx (lev nb n t) k u).drop i) 1 = nth (pathL nx (lev nb n t) k u) (i + 1) := by
      unfold nth; rw [List.getD_eq_getElem?_getD, List.getD_eq_getElem?_getD, List.getElem?_drop]
    rw [← e1, h3]
    cases j with
    | zero => rfl
    | succ j => rfl
  refine ⟨?_, e⟩
  rw [e, g4, Int.toNat_of_nonneg g2]
  exact g1
include h ht hin in
theorem pathL_last {k u : Nat} (hu : u < n) (hk : lev nb n t u = k) : nth (pathL nx (lev nb n t) k u) k = t := by
  obtain ⟨h1, h2, _⟩ := pathL_at h ht hin k u hu hk k (Nat.le_refl _)
  exact ((lev_ok nb n t ht).zero _ h1).1 (by rw [h2]; simp)
theorem pathL_first (nx : Nat → List Int) (g : Nat → Int) (k u : Nat) : nth (pathL nx g k u) 0 = u := by cases k <;> rfl
include h ht hin in
theorem pathL_nodup {k u : Nat} (hu : u < n) (hk : lev nb n t u = k) : (pathL nx (lev nb n t) k u).Nodup := by
  rw [List.nodup_iff_pairwise_ne, List.pairwise_iff_getElem]
  intro i j hi hj hij e
  rw [pathL_len] at hi hj
  have h1 := (pathL_at h ht hin k u hu hk i (by omega)).2.1
  have h2 := (pathL_at h ht hin k u hu hk j (by omega)).2.1
  rw [nth_eq (by rw [pathL_len]; omega)] at h1
  rw [nth_eq (by rw [pathL_len]; omega)] at h2
  rw [e] at h1
  omega
end
/-- what stands ahead of the first one that is found is less, and is not it -/
theorem find_less {l : List Int} (hl : Rises ltI l) {p : Int → Bool} {x y : Int} (hf : l.find? p = some x) (hy : y ∈ l) (hlt : y < x) : p y = false := by
  obtain ⟨hx, a, b, rfl, ha⟩ := List.find?_eq_some_iff_append.1 hf
  rcases List.mem_append.1 hy with h | h
  · have := ha y h; simpa using this
  · rcases List.mem_cons.1 h with rfl | h
    · omega
    · have h1 := (List.pairwise_append.1 hl).2.1
      have h2 := (List.pairwise_cons.1 h1).1 y h
      simp [ltI] at h2; omega
end Go.Proofs.YtkekibnhmfmhmaaGreat
/- Rows of a graph: laid in one sweep, or place by place. No program in sight. -/
namespace Go.Proofs.YtkekibnhmfmhmaaGreat
open Go Go.RowKit
/-- offsets: how many edges come ahead of a place -/
def offL (n : Nat) (E : List (Int × Int)) : List Int := (List.range (n + 1)).map fun (j : Nat) => ((E.countP fun x => decide (x.1 < (j:Int))) : Int)
def toL (E : List (Int × Int)) : List Int := E.map (·.2)
theorem offL_len (n : Nat) (E : List (Int × Int)) : (offL n E).length = n + 1 := by simp [offL]
theorem offL_nth {n j : Nat} (E : List (Int × Int)) (h : j < n + 1) : nth (offL n E) j = ((E.countP fun x => decide (x.1 < (j:Int))) : Int) := by
  rw [nth_eq (by rw [offL_len]; exact h)]
  simp [offL]
/-- counts, when k edges are over -/
def cntL (n : Nat) (E : List (Int × Int)) : List Int := (List.range (n + 1)).map fun (j : Nat) => ((E.countP fun x => decide (x.1 + 1 = (j:Int))) : Int)
theorem cntL_len (n : Nat) (E : List (Int × Int)) : (cntL n E).length = n + 1 := by simp [cntL]
theorem cntL_nth {n j : Nat} (E : List (Int × Int)) (h : j < n + 1) : nth (cntL n E) j = ((E.countP fun x => decide (x.1 + 1 = (j:Int))) : Int) := by
  rw [nth_eq (by rw [cntL_len]; exact h)]
  simp [cntL]
theorem cntL_step {n : Nat} (E : List (Int × Int)) (x : Int × Int) {k : Nat} (hk : x.1 = (k:Int)) (hn : k < n) : cntL n (E ++ [x]) = (cntL n E).set (k + 1) (nth (cntL n E) (k + 1) + 1) := by
  apply List.ext_getElem
  · simp [cntL]
  · intro i h1 h2
    rw [List.getElem_set]
    by_cases e : k + 1 = i
    · subst e
      rw [if_pos rfl, cntL_nth E (by omega)]
      simp [cntL, List.countP_append, hk]
    · rw [if_neg e]
      have : ¬ ((k:Int) + 1 = (i:Int)) := by omega
      simp [cntL, List.countP_append, hk, this]
/-- sums, when v places are over -/
def sumL (n : Nat) (E : List (Int × Int)) (v : Nat) : List Int := (List.range (n + 1)).map fun (j : Nat) => if j ≤ v then ((E.countP fun x => decide (x.1 < (j:Int))) : Int) else ((E.countP fun x => decide (x.1 + 1 = (j:Int))) : Int)
theorem sumL_len (n : Nat) (E : List (Int × Int)) (v : Nat) : (sumL n E v).length = n + 1 := by simp [sumL]
theorem sumL_nth {n j v : Nat} (E : List (Int × Int)) (h : j < n + 1) : nth (sumL n E v) j = if j ≤ v then ((E.countP fun x => decide (x.1 < (j:Int))) : Int) else ((E.countP fun x => decide (x.1 + 1 = (j:Int))) : Int) := by
  rw [nth_eq (by rw [sumL_len]; exact h)]
  simp [sumL]
theorem sumL_zero {n : Nat} {E : List (Int × Int)} (h : ∀ x ∈ E, 0 ≤ x.1) : sumL n E 0 = cntL n E := by
  apply List.ext_getElem
  · simp [sumL, cntL]
  · intro i h1 h2
    simp only [sumL, cntL, List.getElem_map, List.getElem_range]
    by_cases e : i ≤ 0
    · obtain rfl : i = 0 := by omega
      rw [if_pos e]
      rw [List.countP_eq_zero.2 fun x hx => by have := h x hx; simp; omega, List.countP_eq_zero.2 fun x hx => by have := h x hx; simp; omega]
    · rw [if_neg e]
theorem sumL_end (n : Nat) (E : List (Int × Int)) : sumL n E n = offL n E := by
  apply List.ext_getElem
  · simp [sumL, offL]
  · intro i h1 h2
    simp only [sumL, offL, List.getElem_map, List.getElem_range]
    rw [if_pos (by simp [sumL] at h1; omega)]
theorem count_step (E : List (Int × Int)) (v : Nat) : (E.countP fun x => decide (x.1 < ((v + 1 : Nat):Int))) = (E.countP fun x => decide (x.1 + 1 = ((v + 1 : Nat):Int))) + E.countP fun x => decide (x.1 < (v:Int)) := by
  induction E with
  | nil => rfl
  | cons x E ih =>
    simp only [List.countP_cons]
    rw [ih]
    by_cases h1 : x.1 < (v:Int)
    · have h2 : x.1 < ((v + 1 : Nat) : Int) := by omega
      have h3 : ¬ (x.1 + 1 = ((v + 1 : Nat):Int)) := by omega
      simp only [h1, h2, h3, decide_true, decide_false, if_true, Bool.false_eq_true, if_false]; omega
    · by_cases h2 : x.1 + 1 = ((v + 1 : Nat) : Int)
      · have h3 : x.1 < ((v + 1 : Nat) : Int) := by omega
        simp only [h1, h2, h3, decide_true, decide_false, if_true, Bool.false_eq_true, if_false]; omega
      · have h3 : ¬ x.1 < ((v + 1 : Nat) : Int) := by omega
        simp only [h1, h2, h3, decide_false, Bool.false_eq_true, if_false]; omega
theorem sumL_step {n : Nat} (E : List (Int × Int)) {v : Nat} (hv : v < n) : sumL n E (v + 1) = (sumL n E v).set (v + 1) (nth (sumL n E v) (v + 1) + nth (sumL n E v) v) := by
  apply List.ext_getElem
  · simp [sumL]
  · intro i h1 h2
    rw [List.getElem_set]
    by_cases e : v + 1 = i
    · subst e
      rw [if_pos rfl, sumL_nth E (by omega), sumL_nth E (by omega), if_neg (by omega), if_pos (Nat.le_refl _)]
      simp only [sumL, List.getElem_map, List.getElem_range]
      rw [if_pos (Nat.le_refl _), count_step]
      omega
    · rw [if_neg e]
      simp only [sumL, List.getElem_map, List.getElem_range]
      by_cases e2 : i ≤ v
      · rw [if_pos e2, if_pos (by omega)]
      · rw [if_neg e2, if_neg (by omega)]
/-! ### place by place -/
def placeE (E : List (Int × Int)) (v : Nat) : List (Int × Int) := E.filter fun x => decide (x.1 = (v:Int))
def placesK (E : List (Int × Int)) (k : Nat) : List (Int × Int) := (List.range k).flatMap (placeE E)
theorem placesK_step (E : List (Int × Int)) (k : Nat) : placesK E (k + 1) = placesK E k ++ placeE E k := by
  unfold placesK; rw [List.range_succ, List.flatMap_append]; simp
theorem placesK_mem {E : List (Int × Int)} {k : Nat} {x : Int × Int} : x ∈ placesK E k ↔ x ∈ E ∧ ∃ v : Nat, v < k ∧ x.1 = (v:Int) := by
  unfold placesK placeE
  simp only [List.mem_flatMap, List.mem_range, List.mem_filter, decide_eq_true_eq]
  constructor
  · rintro ⟨v, h1, h2, h3⟩; exact ⟨h2, v, h1, h3⟩
  · rintro ⟨h1, v, h2, h3⟩; exact ⟨v, h2, h1, h3⟩
theorem placesK_len (E : List (Int × Int)) (h : ∀ x ∈ E, 0 ≤ x.1) : ∀ k : Nat, (placesK E k).length = E.countP fun x => decide (x.1 < (k:Int))
  | 0 => by
    rw [List.countP_eq_zero.2 fun x hx => by have := h x hx; simp; omega]; rfl
  | k + 1 => by
    rw [placesK_step, List.length_append, placesK_len E h k, count_step]
    have : (placeE E k).length = E.countP fun x => decide (x.1 + 1 = ((k + 1 : Nat):Int)) := by
      unfold placeE
      rw [List.countP_eq_length_filter]
      congr 1
      apply List.filter_congr
      intro x _
      rw [decide_eq_decide]; omega
    omega
theorem lessE_iff {a b : Int × Int} : lessE a b = true ↔ a.1 < b.1 ∨ a.1 = b.1 ∧ a.2 < b.2 := by unfold lessE; simp
theorem placesK_rises {E : List (Int × Int)} (h : Rises lessE E) : ∀ k, Rises lessE (placesK E k)
  | 0 => List.Pairwise.nil
  | k + 1 => by
    rw [placesK_step]
    refine List.pairwise_append.2 ⟨placesK_rises h k, h.sublist List.filter_sublist, fun a ha b hb => ?_⟩
    obtain ⟨_, v, h1, h2⟩ := placesK_mem.1 ha
    unfold placeE at hb
    rw [List.mem_filter, decide_eq_true_eq] at hb
    rw [lessE_iff]; omega
theorem places_all {E : List (Int × Int)} (h : Rises lessE E) {k : Nat} (hb : ∀ x ∈ E, 0 ≤ x.1 ∧ x.1 < k) : placesK E k = E :=
  rises_uniq stoE _ _ (placesK_rises h k) h fun x => by
    rw [placesK_mem]
    exact ⟨fun h => h.1, fun hx => ⟨hx, x.1.toNat, by have := hb x hx; omega, by have := hb x hx; omega⟩⟩
/-- the same, turned -/
theorem placeE_turn {E : List (Int × Int)} (h : Rises lessE E) (v : Nat) : placeE (putAll lessE (E.map swapE)) v = (E.filter fun x => decide (x.2 = (v:Int))).map swapE := by
  refine rises_uniq stoE _ _ ((putAll_rises stoE _).sublist List.filter_sublist) ?_ fun x => ?_
  · rw [Rises, List.pairwise_map]
    refine (h.sublist List.filter_sublist).imp_of_mem fun {a b} ha hb hab => ?_
    rw [List.mem_filter, decide_eq_true_eq] at ha hb
    rw [lessE_iff] at hab ⊢
    unfold swapE
    simp only
    omega
  · unfold placeE
    rw [List.mem_filter, putAll_mem stoE, List.mem_map, List.mem_map]
    simp only [List.mem_filter, decide_eq_true_eq]
    constructor
    · rintro ⟨⟨y, h1, rfl⟩, h2⟩; exact ⟨y, ⟨h1, h2⟩, rfl⟩
    · rintro ⟨y, ⟨h1, h2⟩, rfl⟩; exact ⟨⟨y, h1, rfl⟩, h2⟩
end Go.Proofs.YtkekibnhmfmhmaaGreat
/- A range over a function in the new style: regions that draw their order within a round; pieces of memory under the law's own book-keeping. -/
namespace Go.Proofs.YtkekibnhmfmhmaaGreat
open Go Go.RowKit
section
variable {F : Fence} {n : Nat} {P : Program}
theorem wpQuietIn_of {ops : Array Oper} {C : World → Prop} {Q : Act → Prop} : ∀ {l : List Oper} {a : Act}, wpQuiet P ops C Q l a → wpQuietIn Fence.wide n P ops C Q l a
  | [], _, h => h
  | o :: l, a, h => by
    unfold wpQuiet at h
    unfold wpQuietIn
    refine ⟨fun _ _ _ _ => trivial, ?_⟩
    split
    · rename_i hw
      rw [if_pos hw] at h
      obtain ⟨v, hv, hk⟩ := h
      refine ⟨v, fun w hw => ?_, wpQuietIn_of hk⟩
      have := hv w hw
      unfold Oper.quietAt at this
      unfold Oper.quietAtIn
      generalize (execOp a.eval o).run P w = r at this
      cases r with
      | ok x w' =>
        cases x <;> first | exact this | exact this.elim | skip
        obtain ⟨h1, h2⟩ := this
        exact ⟨h1, fun h => by simp [Fence.wide] at h, callsIn_wide.2 h2⟩
      | halt x w' => exact this.elim
    · rename_i hw
      rw [if_neg hw] at h
      exact wpQuietIn_of h
theorem wpOpIn_round {r : Nat} {ops : Array Oper} {Q : Exit → Act → World → Prop} {i : Nat} {K K' : Act → World → Prop} {a : Act} {w : World} (_ : F.round = none) (hnd : ∀ (i : Nat) (o : Oper), ops[i]? = some o → ∀ c, o.op ≠ .defer c)
    (hK : ∀ a w, K a w → K' a w) (h : wpOpIn F n P ops Q i K a w) : wpOpIn (F.inRound r) n P ops Q i K' a w := by
  have h := wpOpIn_mono hK h
  unfold wpOpIn at h ⊢
  split
  · rename_i ho; rw [ho] at h; exact h
  · rename_i o ho
    rw [ho] at h
    simp only at h
    split
    · rename_i hw
      rw [if_pos hw] at h
      refine ⟨h.1, ?_⟩
      have h2 := h.2
      rw [Oper.semAt_eq _ _ _ (hnd i o ho)] at h2 ⊢
      exact h2
    · rename_i hw
      rw [if_neg hw] at h
      exact h
theorem wpAnyIn_round {r : Nat} {md : Region.Mode} {ops : Array Oper} {Q : Exit → Act → World → Prop} (hro : F.round = none) (hnd : ∀ (i : Nat) (o : Oper), ops[i]? = some o → ∀ c, o.op ≠ .defer c) :
    ∀ (fuel : Nat) (listed : Array Bool) (a : Act) (w : World), wpAnyIn F n P md ops Q fuel listed a w → wpAnyIn (F.inRound r) n P md ops Q fuel listed a w
  | 0, _, _, _, h => h
  | fuel + 1, _, _, _, h => ⟨h.1, fun i hi => wpOpIn_round hro hnd (fun a w => wpAnyIn_round hro hnd fuel _ a w) (h.2 i hi)⟩
def noDefer (o : Oper) : Bool := match o.op with | .defer _ => false | _ => true
/-- a region that draws its order, within a round: as outside of it -/
theorem wpIn_region_ext {r : Nat} {id : Nat} {Q : Exit → Act → World → Prop} {a : Act} {w : World} {l : List Oper} (hm : P.follows .mixedOrders = true) (hB : Region.lexB .any l.toArray = true) (hd : l.all noDefer = true)
    (h : wpQuiet P l.toArray (fun w' => ∃ x : ExtOf w, w' = x.val) (fun a' => ∀ w', (∃ x : ExtOf w, w' = x.val) → Q .normal a' w') l a) : (Code.region id l.toArray true).wpIn (Fence.wide.inRound r) n P Q a w := by
  have hnd : ∀ (i : Nat) (o : Oper), l.toArray[i]? = some o → ∀ c, o.op ≠ .defer c := fun i o ho c e => by
    have := List.all_eq_true.1 hd o (List.mem_of_getElem? (by simpa using ho))
    unfold noDefer at this
    rw [e] at this
    cases this
  have hB0 := hB
  simp only [Region.lexB, Bool.and_eq_true] at hB
  refine wpIn_region_any hm (wpAnyIn_round rfl hnd _ _ _ _ (wpAnyIn_of_quiet (C := fun w' => ∃ x : ExtOf w, w' = x.val) (Q := fun a' => ∀ w', (∃ x : ExtOf w, w' = x.val) → Q .normal a' w') rfl (fun _ w' hw' h => h w' hw') _ _ _ _ ⟨⟨{ w with drawn := w.drawn + 1 }, ⟨rfl, rfl, rfl, Nat.le_refl _, fun _ _ => rfl⟩⟩, rfl⟩ ?_))
  have := wpAnyQIn_lex (F := Fence.wide) (n := n) (C := fun w' => ∃ x : ExtOf w, w' = x.val) (md := .any) hB.1 l 0 (Array.replicate l.toArray.size false) a (by simp) (by simpa using hB.2) (wpQuietIn_of h)
  simpa using this
end
section
variable {P : Program} {n r : Nat}
theorem rowsIn_of {row : String} {args : Array Value} {w : World} {R : Value → World → Prop} (h : Rows P row args w R) : RowsIn Fence.wide n P row args w R := fun c cs _ => let ⟨v, w', hr, s⟩ := h c cs; ⟨v, w', hr, stepsIn_wide.2 s⟩
theorem wpListIn_round {ops : Array Oper} {Q : Exit → Act → World → Prop} (hL : ¬ LetsOut Q) : ∀ (l : List Oper) (a : Act) (w : World), l.all noDefer = true → wpList P ops Q l a w → wpListIn (Fence.wide.inRound r) n P ops Q l a w
  | [], _, _, _, h => h
  | o :: l, a, w, hd, h => by
    rw [List.all_cons, Bool.and_eq_true] at hd
    have hnd : ∀ c, o.op ≠ .defer c := fun c e => by
      have := hd.1
      unfold noDefer at this
      rw [e] at this
      cases this
    unfold wpList at h
    unfold wpListIn
    split
    · rename_i hw
      rw [if_pos hw] at h
      rcases h with h | h
      · refine ⟨fun _ _ => trivial, ?_⟩
        rw [Oper.semAt_eq _ _ _ hnd]
        unfold Oper.wp at h
        generalize (execOp a.eval o).run P w = res at h
        unfold Oper.upon at h
        unfold Oper.uponIn
        split at h
        · exact wpListIn_round hL l _ _ hd.2 h
        · exact wpListIn_round hL l _ _ hd.2 h
        · exact wpListIn_round hL l _ _ hd.2 h
        · refine ⟨fun h => by simp [Fence.wide] at h, CallsIn.inRound r ((callsIn_wide.2 h).mono fun e w'' hr => ?_)⟩
          cases e with
          | returned v => exact wpListIn_round hL l _ _ hd.2 hr
          | panicked chain => exact hr
          | outgrown => exact hr
        · exact ⟨fun h => by simp [Fence.wide] at h, (rowsIn_of h).mono fun v w'' hr => wpListIn_round hL l _ _ hd.2 hr⟩
        · exact h
        · exact h.elim
      · exact absurd h.2 hL
    · rename_i hw
      rw [if_neg hw] at h
      exact ⟨fun _ _ => trivial, wpListIn_round hL l _ _ hd.2 h⟩
/-- a region of one order, within a round: as outside of it -/
theorem wpIn_region_list {id : Nat} {l : List Oper} {Q : Exit → Act → World → Prop} {a : Act} {w : World} (hL : ¬ LetsOut Q) (hd : l.all noDefer = true) (h : wpList P l.toArray Q l a w) : (Code.region id l.toArray false).wpIn (Fence.wide.inRound r) n P Q a w :=
  wpIn_region_lit (wpListIn_round hL l a w hd h)
end
theorem Kn.pick {w : World} {Φ : List (World → Prop)} (h : Kn w Φ) (is : List Nat) : Kn w (is.filterMap fun i => Φ[i]?) := fun φ hφ => by
  obtain ⟨i, _, hi⟩ := List.mem_filterMap.1 hφ
  exact h φ (List.mem_of_getElem? hi)
/-- every block that the piece lies in is cells -/
def Pc.cells (p : Pc) : Prop := ∀ w, p.holds w → ∀ k, p.foot k → ∃ o : Obj, w.heap[k]? = some o ∧ o.isCells = true
theorem Pc.blk_cells (g : Nat) (t : TypeId) (cs : Array Value) : (Pc.blk g t cs).cells := fun _ h k e => by
  cases e
  have h : Blk _ g t cs := h
  exact ⟨_, h, rfl⟩
theorem Pc.own_cells (e : TypeId) (size : Nat) (q : Option Addr) (n c : Nat) (xs : List Value) : (Pc.own e size q n c xs).cells := fun w h k hk => by
  have h : w.ownsRow 0 e size (.slice q n c) n xs := h
  rcases h.2 with ⟨h1, h2⟩ | ⟨g, cap, cur, h1, hg, hh, _⟩
  · subst h2
    rcases h.2 with ⟨h3, _⟩ | ⟨g, cap, cur, h1, hg, hh, _⟩
    · injection h3 with h3; subst h3; cases hk
    · injection h1 with h1; subst h1
      obtain rfl : g = k := by injection hk
      exact ⟨_, hh, rfl⟩
  · injection h1 with h1; subst h1
    obtain rfl : g = k := by injection hk
    exact ⟨_, hh, rfl⟩
/-- a turn of a new block that is no cells leaves pieces of cells as they are -/
theorem Sep.turn {w0 w w' : World} {Γ : List Pc} {row : Option Nat} {B : Nat} (S : Sep w0 w Γ) (hΓ : ∀ p ∈ Γ, p.cells) (hB : w0.heap.size ≤ B) (hg : w.grownBy w' row) (hr : ∀ r, row = some r → B ≤ r ∧ ∃ o : Obj, w.heap[r]? = some o ∧ o.isCells = false) : Sep w0 w' Γ := by
  refine ⟨Below.trans S.ext ⟨hg.os, hg.tape, hg.output, hg.size, fun k hk => hg.block k (Nat.lt_of_lt_of_le hk S.ext.size) fun e => ?_⟩, fun p hp => p.loc w w' (S.all p hp) fun k hk => hg.block k (S.lt hp hk) fun e => ?_, S.new, S.apart⟩
  · have := (hr k e.symm).1; omega
  · obtain ⟨_, o, h1, h2⟩ := hr k e.symm
    obtain ⟨o', h3, h4⟩ := hΓ p hp w (S.all p hp) k hk
    rw [h1] at h3; injection h3 with h3; subst h3; rw [h2] at h4; cases h4
/-- pieces of cells as what a loop over an iterator keeps -/
theorem sep_ownFrom {β : Type} {w0 : World} {B : Nat} (f : β → World → Prop) (hB : w0.heap.size ≤ B) (h : ∀ s W, f s W → ∃ Γ, (∀ p ∈ Γ, p.cells) ∧ Sep w0 W Γ ∧ ∀ W', Sep w0 W' Γ → f s W') : OwnFrom B f :=
  fun s W W' row hs hg hr => by
    obtain ⟨Γ, h1, h2, h3⟩ := h s W hs
    exact h3 W' (h2.turn h1 hB hg hr)
theorem cells_all {Γ : List Pc} (h : ∀ p ∈ Γ, (∃ g t cs, p = Pc.blk g t cs) ∨ ∃ e size q n c xs, p = Pc.own e size q n c xs) : ∀ p ∈ Γ, p.cells := fun p hp => by
  rcases h p hp with ⟨g, t, cs, rfl⟩ | ⟨e, size, q, n, c, xs, rfl⟩
  · exact Pc.blk_cells _ _ _
  · exact Pc.own_cells _ _ _ _ _ _
/-- the block for the rounds' deferred calls, turned once more: what was there when the call began stays -/
theorem Sep.putObj {w0 w : World} {Γ : List Pc} (S : Sep w0 w Γ) (hΓ : ∀ p ∈ Γ, p.cells) {D : Nat} {o : Obj} (o' : Obj) (hD : w0.heap.size ≤ D) (hK : w.heap[D]? = some o) (ho : o.isCells = false) : Sep w0 (w.putObj D o') Γ :=
  S.turn hΓ hD (grownBy_putObj' w D o') fun r e => by cases e; exact ⟨Nat.le_refl _, o, hK, ho⟩
theorem keeps_ext {W W' : World} (h : Ext W W') : KeepsOthers W W' := ⟨h.size, fun k _ hk _ => (h.block k (Array.getElem?_eq_some_iff.1 hk).1).trans hk⟩
/-- append onto a piece, in a loop over an iterator: whatever is no cells stays, too -/
theorem wpList_append_sepK {P : Program} {w0 w : World} {Γ : List Pc} {ops : Array Oper} {rest : List Oper} {o : Oper} {a : Act} {Q : Exit → Act → World → Prop} (hgd : o.guard = none) (s x : Operand) (t : TypeId)
    (ho : o.op = .call { callee := .builtin .append, args := #[s, x], argTypes := #[t, t] })
    (e : TypeId) (i : TypeInfo) (z : Value) (size bytes : Nat) (ht : P.underlying t = some (.slice e)) (hi : P.info? e = some i) (hz : i.zero = some z)
    (hsize : i.size = size) (hby : i.bytes = bytes) (hzs : z.cells.size = size) (hsz : 0 < size)
    (S : Sep w0 w Γ) (j : Nat) (q : Option Addr) (n cq : Nat) (xs : List Value) (hs : a.eval s = .slice q n cq) (hj : Γ[j]? = some (.own e size q n cq xs))
    (A : Option Addr) (m c : Nat) (news : List Value) (hx : a.eval x = .slice A m c) (hr : Rd w size A m news) (h1 : ∀ u ∈ news, u.oneCell' = true)
    (hbytes : (n + m) * bytes ≤ 140737488355328) (h63 : n + m ≤ 140737488355328)
    (h : ∀ q' c' w', Sep w0 w' (Γ.set j (.own e size q' (n + m) c' (xs ++ news))) → w.heap.size ≤ w'.heap.size → KeepsOthers w w' → wpList P ops Q rest (a.put o.dst (.slice q' (n + m) c')) w') : wpList P ops Q (o :: rest) a w := by
  refine wpList_append_rd hgd s x t ho w0.heap.size e i z size bytes ht hi hz hsize hby hzs hsz q n cq xs hs (S.own j hj) A m c news hx hr h1 hbytes h63 S.ext.size ?_
  intro q' c' w' ho' hg hat _
  refine h q' c' w' (S.put j hj _ hg (fun k hk => hk) (own_base ho' (Nat.zero_le _)) fun k hk => ?_) hg.size (KeepsOthers.of_grownBy hg fun k o ek hk => ?_)
  · rcases hat with h | h
    · exact .inl (h.symm.trans hk)
    · have : some w.heap.size = some k := h.symm.trans hk
      injection this with this
      exact .inr (by omega)
  · obtain ⟨o', h1, h2⟩ := Pc.own_cells e size q n cq xs w (S.all _ (List.mem_of_getElem? hj)) k ek
    rw [hk] at h1; injection h1 with h1; subst h1; exact h2
end Go.Proofs.YtkekibnhmfmhmaaGreat
/- The program's rows: sorted offsets, numbers within, and the iterator over all pairs. -/
namespace Go.Proofs.YtkekibnhmfmhmaaGreat
open Go Go.RowKit Go.Shelf Go.Lib
theorem lessI (x y : Int) (w : World) : Calls Tryz.prog 124 #[.int .i64 x, .int .i64 y] w fun e w' => e = .returned (.bool (decide (x < y))) ∧ Ext w w' :=
  (Any.cmp_Less_int2 { Tryz.binI with } x y w).mono fun e w' ⟨h1, h2⟩ => ⟨h1, by rw [h2]; exact Below.refl _ _⟩
set_option maxHeartbeats 1000000 in
theorem IsSortedI (p : Option Addr) (n c : Nat) (l : List Int) (w : World) (hl : Rd w 1 p n (encI l)) (h0 : 0 < n) :
    Calls Tryz.prog 122 #[.slice p n c] w fun e w' => e = .returned (.bool (sortB l)) ∧ Ext w w' := by
  have p1 := hl.ptr
  have n1 := hl.small
  have l1 := hl.nI
  have HL := Lib.hid hl; clear hl
  have L1 := Lib.hid l1; clear l1
  go_enter Tryz.func122, Tryz.ntmps122
  go_wp2
  go_loopw [3] (fun i wr => ∃ j : Nat, j < n ∧ i = .int .i64 j ∧ (∀ v, j ≤ v → v + 1 < n → nth l v ≤ nth l (v + 1)) ∧ Ext w wr) (fun i _ => (intOf i).toNat)
  case atStart => exact ⟨n - 1, by omega, by go_num, fun v h1 h2 => by omega, Below.refl _ _⟩
  case round =>
    obtain ⟨j, hj, rfl, ha, hE⟩ := hrel
    have HA := Lib.hid ha; clear ha
    rcases Nat.eq_zero_or_pos j with hz | hz
    · subst hz
      have HF : Hid (sortB l = true) := by
        unfold Hid sortB
        rw [List.all_eq_true]
        intro v hv
        rw [List.mem_range] at hv
        exact decide_eq_true (HA.out v (by omega) (by rw [L1.out]; omega))
      have HE := Lib.hid hE; clear hE
      go_wp2
      go_ret
      exact ⟨ret_bool HF.out.symm, HE.out⟩
    · have g1 := hE.cell (HL.out.cI hj)
      have g2 := hE.cell (HL.out.cI (k := j - 1) (by omega))
      have d1 : decide ((0:Int) < (j:Int)) = true := by simp; omega
      have d1n : decide (0 < j) = true := by simp; omega
      have d2 : (0:Int) ≤ j := by omega
      have d3 : (j:Int) < n := by omega
      have d4 : (1:Int) ≤ (j:Int) := by omega
      have d5 : (j:Int) - 1 < n := by omega
      have d6 : (0:Int) ≤ (j:Int) - 1 := by omega
      have HLs := Lib.hid (fun x : ExtOf wr => lessI (nth l j) (nth l (j - 1)) x.val)
      have HE := Lib.hid hE; clear hE
      by_cases hlt : nth l j < nth l (j - 1)
      · rw [decide_eq_true hlt] at HLs
        have HF : Hid (sortB l = false) := by
          unfold Hid sortB
          refine range_all_no _ _ (j - 1) (by rw [← L1.out]; omega) ?_
          rw [show j - 1 + 1 = j by omega]
          simp; exact hlt
        go_wp2
        have x1 := fun x : ExtOf wr => x.ext.cell g1
        have x2 := fun x : ExtOf wr => x.ext.cell g2
        refine wp_region_ext (by kernel_rfl) (by kernel_rfl) ?_
        repeat (go_big_quiet_step (((go_at_call 124; exact Calls.ext_of (HLs.out _)))))
        refine wpQuiet_nil ?_
        rintro w1 ⟨⟨_, hb1⟩, rfl⟩
        go_wp2
        go_ret
        exact ⟨ret_bool HF.out.symm, Ext.trans HE.out hb1⟩
      · rw [decide_eq_false hlt] at HLs
        go_wp2
        have x1 := fun x : ExtOf wr => x.ext.cell g1
        have x2 := fun x : ExtOf wr => x.ext.cell g2
        refine wp_region_ext (by kernel_rfl) (by kernel_rfl) ?_
        repeat (go_big_quiet_step (((go_at_call 124; exact Calls.ext_of (HLs.out _)))))
        refine wpQuiet_nil ?_
        rintro w1 ⟨⟨_, hb1⟩, rfl⟩
        go_wp2
        go_roundw
        case rel => exact ⟨j - 1, by omega, by go_num, fun v h1 h2 => by
          by_cases h3 : v = j - 1
          · subst h3; rw [show j - 1 + 1 = j by omega]; omega
          · exact HA.out v (by omega) h2, Ext.trans HE.out hb1⟩
        case measure => simp [intOf]; omega
def withB (m : Int) (l : List Int) : Bool := l.all fun x => decide (0 ≤ x) && decide (x ≤ m)
set_option maxHeartbeats 1000000 in
theorem withinG (m : Int) (p : Option Addr) (n c : Nat) (l : List Int) (w : World) (hl : Rd w 1 p n (encI l)) :
    Calls Tryz.prog 120 #[.int .i64 m, .slice p n c] w fun e w' => e = .returned (.bool (withB m l)) ∧ w = w' := by
  have p1 := hl.ptr
  have n1 := hl.small
  have l1 := hl.nI
  have HL := Lib.hid hl; clear hl
  have L1 := Lib.hid l1; clear l1
  go_enter Tryz.func120, Tryz.ntmps120
  go_wp2
  go_loop [6, 9] (fun _ i => ∃ k : Nat, k ≤ n ∧ i = .int .i64 k ∧ (l.take k).all (fun x => decide (0 ≤ x) && decide (x ≤ m)) = true) (fun _ i => n - (intOf i).toNat)
  case atStart => exact ⟨0, Nat.zero_le _, rfl, rfl⟩
  case round =>
    obtain ⟨k, hk, rfl, ha⟩ := hrel
    have HA := Lib.hid ha; clear ha
    by_cases hlt : k < n
    · have g1 := HL.out.cI hlt
      have d1 : (0:Int) ≤ k := by omega
      have d2 : (k:Int) < n := by omega
      have hkL : k < l.length := by rw [← L1.out]; exact hlt
      by_cases h1 : nth l k < 0
      · have b1 : decide (nth l k < 0) = true := by simpa using h1
        have HF : Hid (withB m l = false) := all_false_at _ l k hkL (by simp; omega)
        go_wp2
        go_ret
        exact ⟨ret_bool HF.out.symm, rfl⟩
      · have b1 : decide (nth l k < 0) = false := by simpa using h1
        by_cases h2 : m < nth l k
        · have b2 : decide (m < nth l k) = true := by simpa using h2
          have HF : Hid (withB m l = false) := all_false_at _ l k hkL (by simp; omega)
          go_wp2
          go_ret
          exact ⟨ret_bool HF.out.symm, rfl⟩
        · have b2 : decide (m < nth l k) = false := by simpa using h2
          have HS := Lib.hid (all_step (fun x : Int => decide (0 ≤ x) && decide (x ≤ m)) l k hkL HA.out (by simp; omega))
          go_wp2
          go_round
          case rel => exact ⟨k + 1, by omega, by go_num, HS.out⟩
          case measure => simp [intOf]; omega
    · have HF : Hid (withB m l = true) := all_end _ l k (by rw [← L1.out]; exact hlt) HA.out
      go_wp2
      go_ret
      exact ⟨ret_bool HF.out.symm, rfl⟩
theorem allG (po : Option Addr) (no co : Nat) (pt : Option Addr) (nt ct : Nat) (w : World) :
    Calls Tryz.prog 86 #[.slice po no co, .slice pt nt ct] w fun e w' => e = .returned (.func (.func 123) #[] #[.pointer (some ⟨w.heap.size, 0, none⟩), .pointer (some ⟨w.heap.size + 1, 0, none⟩)]) ∧ w' = (w.alloc (.cells #[.slice po no co] 39)).alloc (.cells #[.slice pt nt ct] 39) := by
  go_enter Tryz.func86, Tryz.ntmps86
  go_wp2
  go_ret
  exact ⟨by simp, rfl⟩
/-- a place's row, as it is read -/
theorem Rd.rowOf {w : World} {pt : Option Addr} {nt ct : Nat} {O T : List Int} (hT : Rd w 1 pt nt (encI T)) (hok : OffOk O T) (hct : nt ≤ ct) {k : Nat} (hk : k + 1 < O.length) :
    Rd w 1 (cutp pt ct (nth O k).toNat 1) ((nth O (k + 1)).toNat - (nth O k).toNat) (encI (rowL O T k)) := by
  have h1 := hok.le k hk
  have h2 := hok.hi (k + 1) hk
  have h3 := hT.nI
  have := hT.cut (l := (nth O k).toNat) (h := (nth O (k + 1)).toNat) (by omega) (by omega) hct
  rw [encI_drop, encI_take] at this
  exact this
/-- what a round keeps -/
def KpA (n₀ b1 b2 : Nat) (W W' : World) : Prop := Below n₀ W W' ∧ W'.heap[b1]? = W.heap[b1]? ∧ W'.heap[b2]? = W.heap[b2]?
theorem KpA.trans {n₀ b1 b2 : Nat} {A B C : World} (h : KpA n₀ b1 b2 A B) (k : KpA n₀ b1 b2 B C) : KpA n₀ b1 b2 A C := ⟨Below.trans h.1 k.1, k.2.1.trans h.2.1, k.2.2.trans h.2.2⟩
theorem KpA.refl (n₀ b1 b2 : Nat) (A : World) : KpA n₀ b1 b2 A A := ⟨Below.refl _ _, rfl, rfl⟩
theorem KpA.ext {n₀ b1 b2 : Nat} {A B : World} (h : Ext A B) (hn : n₀ ≤ A.heap.size) (h1 : b1 < A.heap.size) (h2 : b2 < A.heap.size) : KpA n₀ b1 b2 A B := ⟨h.mono hn, h.block b1 h1, h.block b2 h2⟩
abbrev PairOf (O T : List Int) := { x : Int × Int // x ∈ pairs O T }
theorem pairs_at {O T : List Int} {k j : Nat} (hk : k < O.length - 1) (hj : j < (rowL O T k).length) : ((k : Int), nth (rowL O T k) j) ∈ pairs O T := mem_pairs.2 ⟨k, hk, rfl, nth_mem hj⟩
theorem rowX_take {O T : List Int} {k j : Nat} (hj : j < (rowL O T k).length) : (rowX O T k).take (j + 1) = (rowX O T k).take j ++ [((k : Int), nth (rowL O T k) j)] := by
  have h1 : j < (rowX O T k).length := by unfold rowX; rw [List.length_map]; exact hj
  rw [take_succ_nth _ j h1]
  congr 2
  rw [nth_eq h1, nth_eq hj]
  simp [rowX]
theorem pairsK_prefix {O T : List Int} {k : Nat} : ∀ d, pairsK O T k <+: pairsK O T (k + d)
  | 0 => List.prefix_refl _
  | d + 1 => by
    rw [← Nat.add_assoc, pairsK_step]
    exact (pairsK_prefix d).trans (List.prefix_append _ _)
theorem pairs_prefix {O T : List Int} {k j : Nat} (hk : k < O.length - 1) : pairsK O T k ++ (rowX O T k).take j <+: pairs O T := by
  have h1 : pairsK O T k ++ (rowX O T k).take j <+: pairsK O T (k + 1) := by
    rw [pairsK_step]
    exact (List.prefix_append_right_inj _).2 (List.take_prefix _ _)
  have h2 := pairsK_prefix (O := O) (T := T) (k := k + 1) (O.length - 1 - (k + 1))
  rw [show k + 1 + (O.length - 1 - (k + 1)) = O.length - 1 by omega] at h2
  exact h1.trans h2
end Go.Proofs.YtkekibnhmfmhmaaGreat
/- The iterator over all pairs: its contract. -/
namespace Go.Proofs.YtkekibnhmfmhmaaGreat
open Go Go.RowKit Go.Shelf Go.Lib
attribute [local go_sem] Oper.semAt_some
set_option maxRecDepth 100000 in
set_option maxHeartbeats 4000000 in
theorem all_stops (n : Nat) (hn : 1 ≤ n) (b1 b2 n₀ : Nat) (po : Option Addr) (no co : Nat) (pt : Option Addr) (nt ct : Nat) (O T : List Int) (w : World) (hw : n₀ ≤ w.heap.size)
    (h1 : Blk w b1 39 #[.slice po no co]) (h2 : Blk w b2 39 #[.slice pt nt ct]) (hO : Rd w 1 po no (encI O)) (hT : Rd w 1 pt nt (encI T)) (hO0 : 0 < no → (adr po 0).block < n₀) (hT0 : 0 < nt → (adr pt 0).block < n₀)
    (hok : OffOk O T) (hct : nt ≤ ct) :
    SeqStopsK Fence.wide n Tryz.prog 123 #[.pointer (some ⟨b1, 0, none⟩), .pointer (some ⟨b2, 0, none⟩)] (fun x : PairOf O T => #[Value.int .i64 x.1.1, Value.int .i64 x.1.2]) (KpA n₀ b1 b2)
      (fun ys => ys.map (·.1) = pairs O T) (fun pre => pre.map (·.1) <+: pairs O T) (pairs O T).length w := by
  intro l J Jx W hW hJ hJx hY h0
  have B1 : Blk W b1 39 #[.slice po no co] := h1.ext hW
  have B2 : Blk W b2 39 #[.slice pt nt ct] := h2.ext hW
  have RO := hO.ext hW
  have RT := hT.ext hW
  have l1 := Lib.hid RO.nI
  have l2 := Lib.hid RT.nI
  have pO := RO.ptr
  have pT := RT.ptr
  have n1 := RO.small
  have n2 := RT.small
  have w2 := hok.two
  clear h1 h2 hO hT hJx
  have HW := Lib.hid hW; clear hW
  have HJ := Lib.hid hJ; clear hJ
  have HY := Lib.hid hY; clear hY
  have HOK := Lib.hid hok; clear hok
  have HRO := Lib.hid RO; clear RO
  have HRT := Lib.hid RT; clear RT
  have c1 := B1.cell 0
  have z1 := B1.lt
  have d0 : (1:Int) ≤ no := by have := l1.out; omega
  have HB1 := Lib.hid B1; clear B1
  have HB2 := Lib.hid B2; clear B2
  refine callsIn_of_wp Tryz.func123 rfl trivial ?_ rfl
  simp only [Tryz.ntmps123, List.size_toArray, List.length_cons, List.length_nil, Nat.reduceAdd, Nat.reduceSub, Array.replicate_succ, Array.replicate_zero, List.push_toArray, List.append_toArray, List.nil_append, List.cons_append]
  gi_wp2
  gi_loopw [4, 6, 10] (fun _ _ i wr => ∃ (k : Nat) (pre : List (PairOf O T)), k ≤ no - 1 ∧ i = .int .i64 k ∧ pre.map (·.1) = pairsK O T k ∧ J pre wr ∧ KpA n₀ b1 b2 W wr) (fun _ _ i _ => (no - 1) - (intOf i).toNat)
  case atStart => exact ⟨0, [], Nat.zero_le _, rfl, rfl, h0, KpA.refl _ _ _ _⟩
  case round =>
    clear c1
    obtain ⟨k, pre, hk, rfl, hpre, hJs, hKp⟩ := hrel
    have B1' : Blk wr b1 39 #[.slice po no co] := hKp.2.1.trans HB1.out
    have B2' : Blk wr b2 39 #[.slice pt nt ct] := hKp.2.2.trans HB2.out
    have RO' := HRO.out.below hKp.1 (by simpa using hO0)
    have RT' := HRT.out.below hKp.1 (by simpa using hT0)
    have HP := Lib.hid hpre; clear hpre
    have HJs := Lib.hid hJs; clear hJs
    have HKp := Lib.hid hKp; clear hKp
    by_cases hlt : k < no - 1
    · have hk1 : k + 1 < O.length := by rw [← l1.out]; omega
      have q1 := HOK.out.lo k (by omega)
      have q2 := HOK.out.le k hk1
      have q3 := HOK.out.hi (k + 1) hk1
      have c1 := B1'.cell 0
      have c2 := B2'.cell 0
      have g1 := RO'.cI (k := k) (by omega)
      have g2 := RO'.cI (k := k + 1) (by omega)
      have hrl := Lib.hid (rowL_len HOK.out hk1)
      have RL := Lib.hid (RT'.rowOf HOK.out hct hk1)
      obtain ⟨a, ha⟩ : ∃ a : Nat, nth O k = (a : Int) := ⟨(nth O k).toNat, by omega⟩
      obtain ⟨b, hb⟩ : ∃ b : Nat, nth O (k + 1) = (b : Int) := ⟨(nth O (k + 1)).toNat, by omega⟩
      rw [ha] at g1 q1 q2 hrl RL
      rw [hb] at g2 q2 q3 hrl RL
      have hq3 : (b:Int) ≤ ct := by have := l2.out; omega
      simp only [Int.toNat_natCast] at hrl RL
      have HRL : Hid (∀ W', Below n₀ W W' → Rd W' 1 (cutp pt ct a 1) (b - a) (encI (rowL O T k))) := fun W' h => by
        have h3 := (HRT.out.below h (by simpa using hT0)).rowOf HOK.out hct hk1
        rw [ha, hb] at h3
        simpa only [Int.toNat_natCast] using h3
      have d1 : (0:Int) ≤ k := by omega
      have d2 : (k:Int) < no := by omega
      have d2b : (k:Int) < (no:Int) - 1 := by omega
      have d3 : (0:Int) ≤ (k:Int) + 1 := by omega
      have d4 : (k:Int) + 1 < no := by omega
      clear ha hb B1' B2' RO' RT' q3
      gi_wp2
      refine wpIn_wide.2 ?_
      have x1 := fun x : ExtOf wr => x.ext.cell c1
      have x2 := fun x : ExtOf wr => x.ext.cell c2
      have y1 := fun x : ExtOf wr => x.ext.cell g1
      have y2 := fun x : ExtOf wr => x.ext.cell g2
      refine wp_region_ext (by kernel_rfl) (by kernel_rfl) ?_
      repeat (go_big_quiet_step ((fail)))
      refine wpQuiet_nil ?_
      rintro w1 ⟨⟨_, hb1⟩, rfl⟩
      have pR := RL.out.ptr
      have nR := RL.out.small
      have lR := Lib.hid RL.out.nI
      gi_wp2
      gi_loopw [6, 25] (fun _ j wx => ∃ (i : Nat) (pre' : List (PairOf O T)), i ≤ b - a ∧ j = .int .i64 i ∧ pre'.map (·.1) = pairsK O T k ++ (rowX O T k).take i ∧ J pre' wx ∧ KpA n₀ b1 b2 W wx) (fun _ j _ => (b - a) - (intOf j).toNat)
      case atStart => exact ⟨0, pre, Nat.zero_le _, rfl, by rw [HP.out]; simp, HJ.out _ _ _ none HJs.out (Ext.grown hb1) (fun r e => nomatch e),
        HKp.out.trans (KpA.ext hb1 (Nat.le_trans hw (Nat.le_trans HW.out.size HKp.out.1.size)) (Nat.lt_of_lt_of_le HB1.out.lt HKp.out.1.size) (Nat.lt_of_lt_of_le HB2.out.lt HKp.out.1.size))⟩
      case round =>
        clear hb1 x1 x2 y1 y2
        obtain ⟨i, pre', hi, rfl, hp', hJ', hK'⟩ := hrel
        have RLx := HRL.out _ hK'.1
        have HP' := Lib.hid hp'; clear hp'
        have HJ' := Lib.hid hJ'; clear hJ'
        have HK' := Lib.hid hK'; clear hK'
        by_cases hli : i < b - a
        · have hin : i < (rowL O T k).length := by rw [hrl.out]; exact hli
          have f1 := RLx.cI hli
          have d5 : (0:Int) ≤ i := by omega
          have d6 : (i:Int) < ((b - a : Nat) : Int) := by omega
          have hlen : pre'.length < (pairs O T).length := by
            have h3 := (pairs_prefix (O := O) (T := T) (k := k) (j := i + 1) (by omega)).length_le
            rw [rowX_take hin, ← List.append_assoc, ← HP'.out] at h3
            simp at h3; omega
          obtain ⟨fn, tmps, assign, body, hy, hR⟩ := HY.out pre' ⟨((k : Int), nth (rowL O T k) i), pairs_at (by rw [← l1.out]; exact hlt) hin⟩ _ HJ'.out hlen
          dsimp only at hy
          clear RLx
          gi_wp2
          refine hR.mono ?_
          rintro e W3 (⟨rfl, hJ3, hk3⟩ | ⟨rfl, hJx3⟩)
          · have HJ3 := Lib.hid hJ3; clear hJ3
            have HK3 := Lib.hid hk3; clear hk3
            gi_wp2
            go_roundw
            case rel => exact ⟨i + 1, _, by omega, by go_num, by rw [List.map_append, HP'.out, rowX_take hin, List.append_assoc]; rfl, HJ3.out, HK'.out.trans HK3.out⟩
            case measure => simp [intOf]; omega
          · have HX3 := Lib.hid hJx3; clear hJx3
            gi_wp2
            refine bodyPost_ret (results_none rfl _ _ _) rfl ?_
            exact ⟨⟨_, rfl⟩, .inr ⟨_, by
              have h3 := pairs_prefix (O := O) (T := T) (k := k) (j := i + 1) (by rw [← l1.out]; exact hlt)
              rw [rowX_take hin, ← List.append_assoc, ← HP'.out] at h3
              rw [List.map_append]; exact h3, HX3.out⟩⟩
        · obtain rfl : i = b - a := by omega
          clear RLx
          gi_wp2
          go_roundw
          case rel => exact ⟨k + 1, pre', by omega, by go_num, by rw [HP'.out, pairsK_step, List.take_of_length_le (by unfold rowX; rw [List.length_map, hrl.out]; exact Nat.le_refl _)], HJ'.out, HK'.out⟩
          case measure => simp [intOf]; omega
    · obtain rfl : k = no - 1 := by omega
      have d2 : decide (((no - 1 : Nat) : Int) < (no : Int) - 1) = false := by simp; omega
      have d3 : ((no - 1 : Nat) : Int) = (no : Int) - 1 := by omega
      gi_wp2
      go_end0
      exact ⟨⟨_, rfl⟩, .inl ⟨pre, by rw [HP.out, l1.out]; rfl, HJs.out⟩⟩
end Go.Proofs.YtkekibnhmfmhmaaGreat
/- The program's half: offsets and numbers that are right by themselves. -/
namespace Go.Proofs.YtkekibnhmfmhmaaGreat
open Go Go.RowKit Go.Shelf Go.Lib
attribute [local go_sem] Oper.semAt_some
theorem below_mid {B : Nat} {w W W' : World} (h : Below B w W) (k : Below B w W') (hs : W.heap.size ≤ W'.heap.size) : Below B W W' :=
  ⟨k.os.trans h.os.symm, k.tape.trans h.tape.symm, k.output.trans h.output.symm, hs, fun i hi => (k.block i hi).trans (h.block i hi).symm⟩
theorem kpA_of {w W W' : World} {b1 b2 : Nat} {o1 o2 : Obj} (h : Ext w W) (k : Ext w W') (hs : W.heap.size ≤ W'.heap.size) (h1 : W.heap[b1]? = some o1) (h2 : W.heap[b2]? = some o2) (k1 : W'.heap[b1]? = some o1) (k2 : W'.heap[b2]? = some o2) : KpA w.heap.size b1 b2 W W' :=
  ⟨below_mid h k hs, k1.trans h1.symm, k2.trans h2.symm⟩
theorem kpA_b {w3 : World} {n₀ b1 b2 : Nat} (hn : n₀ ≤ w3.heap.size) (h1 : b1 < w3.heap.size) (h2 : b2 < w3.heap.size) (W : World) (l : Nat) (o o' : Obj) (hl : w3.heap.size ≤ l) (h : W.heap[l]? = some o) (hc : o.isCells = false) (hw : o.isWalk = false) : KpA n₀ b1 b2 W (W.putObj l o') :=
  ⟨belowK_b hn W l o o' hl h hc hw, World.putObj_heap_other (by omega), World.putObj_heap_other (by omega)⟩
set_option maxRecDepth 100000 in
set_option maxHeartbeats 4000000 in
theorem halfG_no (po : Option Addr) (no co : Nat) (O : List Int) (pt : Option Addr) (nt ct : Nat) (T : List Int) (w : World) (hO : Rd w 1 po no (encI O)) (hT : Rd w 1 pt nt (encI T)) (hct : nt ≤ ct) (h : offB O T = false) : Calls Tryz.prog 85 #[.slice po no co, .slice pt nt ct] w fun e w' => e = .returned (.bool false) ∧ Ext w w' := by
  have _hc := hct
  have p1 := hO.ptr
  have n1 := hO.small
  have n2 := hT.small
  have l1 := Lib.hid hO.nI
  have l2 := Lib.hid hT.nI
  have S0 := Lib.hid (((Sep.start w).al #[.bool false] 4 w.heap.size rfl).al #[.int .i64 ((no:Int) - 1)] 3 (w.heap.size + 1) (by simp))
  have HSo := Lib.hid (fun W1 (h : Ext w W1) (h0 : 0 < no) => IsSortedI po no co O W1 (hO.ext h) h0)
  by_cases h1 : (no:Int) - 1 < 1
  · have d1 : decide ((no:Int) - 1 < 1) = true := by simpa using h1
    clear hO hT h
    go_enter Tryz.func85, Tryz.ntmps85
    go_wp2
    refine bodyPost_ret (v := .bool false) (by simp [results, Tryz.results85, go_sem]) rfl ⟨rfl, ?_⟩
    first | exact S0.out.ext | exact (S0.out.set 1 rfl 0 _).ext
  · have d1 : decide ((no:Int) - 1 < 1) = false := by simpa using h1
    by_cases h2 : 200 < (no:Int) - 1
    · have d2 : decide (200 < (no:Int) - 1) = true := by simpa using h2
      clear hO hT h
      go_enter Tryz.func85, Tryz.ntmps85
      go_wp2
      refine bodyPost_ret (v := .bool false) (by simp [results, Tryz.results85, go_sem]) rfl ⟨rfl, ?_⟩
      first | exact S0.out.ext | exact (S0.out.set 1 rfl 0 _).ext
    · have d2 : decide (200 < (no:Int) - 1) = false := by simpa using h2
      by_cases h3 : 2000 < nt
      · have d3 : decide ((2000:Int) < nt) = true := by simp; omega
        clear hO hT h
        go_enter Tryz.func85, Tryz.ntmps85
        go_wp2
        refine bodyPost_ret (v := .bool false) (by simp [results, Tryz.results85, go_sem]) rfl ⟨rfl, ?_⟩
        first | exact S0.out.ext | exact (S0.out.set 1 rfl 0 _).ext
      · have d3 : decide ((2000:Int) < nt) = false := by simp; omega
        have g0 := S0.out.ext.cell (hO.cI (k := 0) (by omega))
        have q1 : (0:Int) < no := by omega
        by_cases h4 : nth O 0 = 0
        · have d4 : (nth O 0 != 0) = false := by simpa using h4
          have g5 := S0.out.ext.cell (hO.cI (k := no - 1) (by omega))
          have q2 : (0:Int) ≤ (no:Int) - 1 := by omega
          have q3 : (no:Int) - 1 < no := by omega
          by_cases h5 : nth O (no - 1) = nt
          · have d5 : (nth O (no - 1) != (nt:Int)) = false := by simpa using h5
            have h6 : sortB O = false := by
              cases h7 : sortB O with
              | false => rfl
              | true =>
                unfold offB at h
                rw [h7, h4] at h
                rw [← l1.out, ← l2.out, h5] at h
                simp at h; omega
            rw [h6] at HSo
            clear hO hT h h6 h4 h5
            go_enter Tryz.func85, Tryz.ntmps85
            go_wp2_with (go_at_call 122; go_must (refine (HSo.out _ S0.out.ext (by omega)).mono ?_; rintro e w2 ⟨rfl, hb⟩; have S2 := Lib.hid (S0.out.call hb); have c4 := (S2.out.blk 1 rfl).cell 0; have f4 := (S2.out.blk 1 rfl).frozen 0; have z4 := (S2.out.blk 1 rfl).lt; clear hb))
            refine bodyPost_ret (v := .bool false) (by simp [results, Tryz.results85, go_sem, c4]) rfl ⟨rfl, (S2.out.set 1 rfl 0 _).ext⟩
          · have d5 : (nth O (no - 1) != (nt:Int)) = true := by simpa using h5
            clear hO hT h h4 h5
            go_enter Tryz.func85, Tryz.ntmps85
            go_wp2
            refine bodyPost_ret (v := .bool false) (by simp [results, Tryz.results85, go_sem]) rfl ⟨rfl, ?_⟩
            first | exact S0.out.ext | exact (S0.out.set 1 rfl 0 _).ext
        · have d4 : (nth O 0 != 0) = true := by simpa using h4
          clear hO hT h h4
          go_enter Tryz.func85, Tryz.ntmps85
          go_wp2
          refine bodyPost_ret (v := .bool false) (by simp [results, Tryz.results85, go_sem]) rfl ⟨rfl, ?_⟩
          first | exact S0.out.ext | exact (S0.out.set 1 rfl 0 _).ext
end Go.Proofs.YtkekibnhmfmhmaaGreat
/- The program's half, where the offsets are right: each pair is looked at. -/
namespace Go.Proofs.YtkekibnhmfmhmaaGreat
open Go Go.RowKit Go.Shelf Go.Lib
attribute [local go_sem] Oper.semAt_some
/-- what the loop keeps: the boxes of the iterator, the last pair, n, the result -/
def halfPc (b4 b : Nat) (po : Option Addr) (no co : Nat) (pt : Option Addr) (nt ct : Nat) (p : Int × Int) (r : Bool) : List Pc :=
  [.blk (b + 1 + 1 + 1) 39 #[.slice pt nt ct], .blk (b + 1 + 1) 39 #[.slice po no co], .blk (b + 1) 3 #[.int .i64 p.2], .blk b 3 #[.int .i64 p.1], .blk (b4 + 1) 3 #[.int .i64 ((no:Int) - 1)], .blk b4 4 #[.bool r]]
theorem halfPc_cells (b4 b : Nat) (po : Option Addr) (no co : Nat) (pt : Option Addr) (nt ct : Nat) (p : Int × Int) (r : Bool) : ∀ q ∈ halfPc b4 b po no co pt nt ct p r, q.cells :=
  cells_all fun q hq => by simp [halfPc] at hq; rcases hq with h | h | h | h | h | h <;> exact .inl ⟨_, _, _, h⟩
set_option maxRecDepth 100000 in
set_option maxHeartbeats 4000000 in
theorem halfG_yes (po : Option Addr) (no co : Nat) (O : List Int) (pt : Option Addr) (nt ct : Nat) (T : List Int) (w : World) (hO : Rd w 1 po no (encI O)) (hT : Rd w 1 pt nt (encI T)) (hct : nt ≤ ct) (h : offB O T = true) : Calls Tryz.prog 85 #[.slice po no co, .slice pt nt ct] w fun e w' => e = .returned (.bool (halfB O T)) ∧ Ext w w' := by
  have p1 := hO.ptr
  have n1 := hO.small
  have n2 := hT.small
  have l1 := hO.nI
  have l2 := hT.nI
  have hhb := Lib.hid (halfB_pairs h)
  have HOK := Lib.hid (offOk_of h)
  obtain ⟨r1, r2, r3, r4, r5, r6⟩ := offB_parts h
  have S0 := Lib.hid (((Sep.start w).al #[.bool false] 4 w.heap.size rfl).al #[.int .i64 ((no:Int) - 1)] 3 (w.heap.size + 1) (by simp))
  have HSo := Lib.hid (fun W1 (h : Ext w W1) => IsSortedI po no co O W1 (hO.ext h) (by omega))
  rw [r6] at HSo
  have d1 : decide ((no:Int) - 1 < 1) = false := by simp; omega
  have d2 : decide (200 < (no:Int) - 1) = false := by simp; omega
  have d3 : decide ((2000:Int) < nt) = false := by simp; omega
  have g0 := S0.out.ext.cell (hO.cI (k := 0) (by omega))
  have q1 : (0:Int) < no := by omega
  have d4 : (nth O 0 != 0) = false := by simpa using r4
  have g5 := S0.out.ext.cell (hO.cI (k := no - 1) (by omega))
  have q2 : (0:Int) ≤ (no:Int) - 1 := by omega
  have q3 : (no:Int) - 1 < no := by omega
  have d5 : (nth O (no - 1) != (nt:Int)) = false := by rw [← l1, ← l2] at r5; simpa using r5
  have L1 : Hid (((O.length - 1 : Nat) : Int) = (no:Int) - 1) := by unfold Hid; omega
  rw [L1.out] at hhb
  have hO0 : 0 < no → (adr po 0).block < w.heap.size := fun h => hO.lt (by omega)
  have hT0 : 0 < nt → (adr pt 0).block < w.heap.size := fun h => hT.lt (by omega)
  have HO := Lib.hid hO; clear hO
  have HT := Lib.hid hT; clear hT
  clear r1 r2 r3 r4 r5 r6 h l1 l2
  refine (callsIn_wide (n := 9)).1 ?_
  refine callsIn_of_wp_marks Tryz.func85 rfl trivial ?_ rfl
  simp only [Tryz.ntmps85, List.size_toArray, List.length_cons, List.length_nil, Nat.reduceAdd, Nat.reduceSub, Array.replicate_succ, Array.replicate_zero, List.push_toArray, List.append_toArray, List.nil_append, List.cons_append]
  refine wpIn_wide.2 ?_
  go_wp2_with (first
    | (go_at_call 86; go_must (refine (allG po no co pt nt ct _).mono ?_; rintro e w3 ⟨rfl, hw3⟩; have S3 := (((S2.out.al #[.int .i64 (-1)] 3 w2.heap.size rfl).al #[.int .i64 0] 3 (w2.heap.size + 1) (by simp)).al #[.slice po no co] 39 (w2.heap.size + 1 + 1) (by simp)).al #[.slice pt nt ct] 39 (w2.heap.size + 1 + 1 + 1) (by simp); rw [← hw3] at S3; have S4 := Lib.hid (S3 : Sep w w3 (halfPc w.heap.size w2.heap.size po no co pt nt ct (-1, 0) false)); clear S3 hw3))
    | (go_at_call 122; go_must (refine (HSo.out _ S0.out.ext).mono ?_; rintro e w2 ⟨rfl, hb⟩; have S2 := Lib.hid (S0.out.call hb); have c4 := (S2.out.blk 1 rfl).cell 0; have c5 := (S2.out.blk 0 rfl).cell 0; have z4 := (S2.out.blk 1 rfl).lt; have z5 := (S2.out.blk 0 rfl).lt; clear hb)))
  clear S0 S2 HSo g0 g5 c4 c5
  generalize w2.heap.size = b at *
  refine wpIn_wide.1 (wpIn_rangeFunc_ownG (F := Fence.wide) (n := 9) rfl (by omega) (gf := 123) (lb := #[.pointer (some ⟨b + 1 + 1, 0, none⟩), .pointer (some ⟨b + 1 + 1 + 1, 0, none⟩)]) rfl trivial (enters_of Tryz.func123 (by kernel_rfl) rfl)
    (all_stops 8 (by omega) (b + 1 + 1) (b + 1 + 1 + 1) w.heap.size po no co pt nt ct O T w3 S4.out.ext.size (S4.out.blk 1 rfl) (S4.out.blk 0 rfl) (HO.out.ext S4.out.ext) (HT.out.ext S4.out.ext) hO0 hT0 HOK.out hct)
    (fun h k => KpA.trans h k) (kpA_b S4.out.ext.size (S4.out.blk 1 rfl).lt (S4.out.blk 0 rfl).lt) (Below.refl _ _) (fun _ => rfl)
    (fun pre W => okFrom ((no:Int) - 1) (-1, 0) (pre.map (·.1)) = true ∧ Sep w W (halfPc w.heap.size b po no co pt nt ct (lastP (-1, 0) (pre.map (·.1))) false))
    (fun c pre W => (c = .ret ∧ okFrom ((no:Int) - 1) (-1, 0) (pre.map (·.1)) = false) ∧ ∃ p, Sep w W (halfPc w.heap.size b po no co pt nt ct p false))
    ?hI ?hIx ⟨rfl, S4.out⟩ ?a1 ?assign ?body ?done ?stop)
  case hI => exact fun s A B row hs hg hr => ⟨hs.1, hs.2.turn (halfPc_cells _ _ _ _ _ _ _ _ _ _) S4.out.ext.size hg hr⟩
  case hIx => exact fun c s A B row hs hg hr => ⟨hs.1, hs.2.elim fun p S => ⟨p, S.turn (halfPc_cells _ _ _ _ _ _ _ _ _ _) S4.out.ext.size hg hr⟩⟩
  case assign =>
    intro l x W K hK
    gi_wp2
    exact hK
  case body =>
    rintro l pre ⟨⟨v, u⟩, hx⟩ W ⟨ho, S⟩ _
    have hsn := okFrom_snoc ((no:Int) - 1) (-1, 0) (pre.map (·.1)) (v, u)
    rw [ho, Bool.true_and] at hsn
    have hls := lastP_snoc (-1, 0) (pre.map (·.1)) (v, u)
    have hm : (pre ++ [(⟨(v, u), hx⟩ : PairOf O T)]).map (·.1) = pre.map (·.1) ++ [(v, u)] := by simp
    rw [← hm] at hsn hls
    obtain ⟨p, hp⟩ : ∃ p, p = lastP (-1, 0) (pre.map (·.1)) := ⟨_, rfl⟩
    rw [← hp] at S hsn
    have HSN := Lib.hid hsn
    have HLS := Lib.hid hls
    have c7 := (S.blk 2 rfl).cell 0
    have c6 := (S.blk 3 rfl).cell 0
    have c5 := (S.blk 4 rfl).cell 0
    have c4 := (S.blk 5 rfl).cell 0
    have f7 := (S.blk 2 rfl).frozen 0
    have f6 := (S.blk 3 rfl).frozen 0
    have f4 := (S.blk 5 rfl).frozen 0
    have z7 := (S.blk 2 rfl).lt
    have z6 := (S.blk 3 rfl).lt
    have z5 := (S.blk 4 rfl).lt
    have z4 := (S.blk 5 rfl).lt
    have y1 : b ≠ b + 1 := by omega
    have HW := Lib.hid (withinG ((no:Int) - 1 - 1) (some ⟨W.heap.size, 0, none⟩) 1 1 [u] _ (Rd.oneI W 3 u))
    have hwd : withB ((no:Int) - 1 - 1) [u] = (decide (0 ≤ u) && decide (u ≤ (no:Int) - 1 - 1)) := by simp [withB]
    have SH := Lib.hid S; clear S
    clear hsn hls hm ho hp S4 HO HT HOK hO0 hT0 hhb
    by_cases hu : 0 ≤ u ∧ u ≤ (no:Int) - 1 - 1
    · rw [hwd, decide_eq_true hu.1, decide_eq_true hu.2] at HW
      have hu2 : decide (u < (no:Int) - 1) = true := by simp; omega
      by_cases hv : v = p.1
      · have e1 : (v == p.1) = true := by simpa using hv
        by_cases hw : u ≤ p.2
        · have e2 : decide (u ≤ p.2) = true := by simpa using hw
          have HF : Hid (okFrom ((no:Int) - 1) (-1, 0) ((pre ++ [(⟨(v, u), hx⟩ : PairOf O T)]).map (·.1)) = false) := by
            unfold Hid; rw [HSN.out]; unfold okStep; simp [hv, hw]
          clear hv hw hwd
          gi_wp2_with (refine ⟨trivial, ?_⟩; gi_at_call 120; refine (CallsIn.inRound l (callsIn_wide.2 HW.out)).mono ?_; rintro e w' ⟨rfl, rfl⟩)
          exact ⟨((KeepsOthers.setCell W _ _).trans (KeepsOthers.alloc _ _)).from _, ⟨rfl, HF.out⟩, p, (SH.out.set 5 rfl 0 (.bool false)).junk _⟩
        · have e2 : decide (u ≤ p.2) = false := by simpa using hw
          have HF : Hid (okFrom ((no:Int) - 1) (-1, 0) ((pre ++ [(⟨(v, u), hx⟩ : PairOf O T)]).map (·.1)) = true) := by
            unfold Hid; rw [HSN.out]; unfold okStep; simp [hu.1, hw]; omega
          clear hv hw hwd
          gi_wp2_with (refine ⟨trivial, ?_⟩; gi_at_call 120; refine (CallsIn.inRound l (callsIn_wide.2 HW.out)).mono ?_; rintro e w' ⟨rfl, rfl⟩)
          have S' := ((SH.out.set 3 rfl 0 (.int .i64 v)).set 2 rfl 0 (.int .i64 u)).junk (.cells #[.int .i64 u] 3)
          exact ⟨(((KeepsOthers.setCell W _ _).trans (KeepsOthers.setCell _ _ _)).trans (KeepsOthers.alloc _ _)).from _, kpA_of SH.out.ext S'.ext (by simp) (SH.out.blk 1 rfl) (SH.out.blk 0 rfl) (S'.blk 1 rfl) (S'.blk 0 rfl), HF.out, by rw [HLS.out]; exact S'⟩
      · have e1 : (v == p.1) = false := by simpa using hv
        have HF : Hid (okFrom ((no:Int) - 1) (-1, 0) ((pre ++ [(⟨(v, u), hx⟩ : PairOf O T)]).map (·.1)) = true) := by
          unfold Hid; rw [HSN.out]; unfold okStep; simp [hu.1, hv]; omega
        clear hv hwd
        gi_wp2_with (refine ⟨trivial, ?_⟩; gi_at_call 120; refine (CallsIn.inRound l (callsIn_wide.2 HW.out)).mono ?_; rintro e w' ⟨rfl, rfl⟩)
        have S' := ((SH.out.set 3 rfl 0 (.int .i64 v)).set 2 rfl 0 (.int .i64 u)).junk (.cells #[.int .i64 u] 3)
        exact ⟨(((KeepsOthers.setCell W _ _).trans (KeepsOthers.setCell _ _ _)).trans (KeepsOthers.alloc _ _)).from _, kpA_of SH.out.ext S'.ext (by simp) (SH.out.blk 1 rfl) (SH.out.blk 0 rfl) (S'.blk 1 rfl) (S'.blk 0 rfl), HF.out, by rw [HLS.out]; exact S'⟩
    · have hwf : withB ((no:Int) - 1 - 1) [u] = false := by
        rw [hwd]
        by_cases h1 : 0 ≤ u
        · simp [h1]; omega
        · simp [h1]
      rw [hwf] at HW
      have HF : Hid (okFrom ((no:Int) - 1) (-1, 0) ((pre ++ [(⟨(v, u), hx⟩ : PairOf O T)]).map (·.1)) = false) := by
        unfold Hid; rw [HSN.out]; unfold okStep
        have : (decide (0 ≤ u) && decide (u < (no:Int) - 1)) = false := by
          by_cases h1 : 0 ≤ u
          · simp [h1]; omega
          · simp [h1]
        simp only [this, Bool.false_and]
      clear hwd hwf
      gi_wp2_with (refine ⟨trivial, ?_⟩; gi_at_call 120; refine (CallsIn.inRound l (callsIn_wide.2 HW.out)).mono ?_; rintro e w' ⟨rfl, rfl⟩)
      exact ⟨((KeepsOthers.setCell W _ _).trans (KeepsOthers.alloc _ _)).from _, ⟨rfl, HF.out⟩, p, (SH.out.set 5 rfl 0 (.bool false)).junk _⟩
  case done =>
    rintro D ys W hD hys ⟨ho, S⟩ hK
    have HF : Hid (halfB O T = true) := by unfold Hid; rw [hhb.out, ← hys]; exact ho
    have c4 := (S.blk 5 rfl).cell 0
    have f4 := (S.blk 5 rfl).frozen 0
    have z4 := (S.blk 5 rfl).lt
    have hKs := (KeepsOthers.setCell W ⟨w.heap.size, 0, none⟩ (.bool true)).same D _ hK rfl
    have S' := (S.set 5 rfl 0 (.bool true)).putObj (halfPc_cells w.heap.size b po no co pt nt ct _ true) (.deferred none) (Nat.le_trans S4.out.ext.size hD) hKs rfl
    have k4 := (S'.blk 5 rfl).cell 0
    have SH := Lib.hid S; clear S
    have SH' := Lib.hid S'; clear S'
    go_wp2
    refine ⟨by simp, .inl ⟨_, _, rfl, run_takeDeferred hKs, ?_⟩⟩
    exact ⟨.bool true, by simp [results, Tryz.results85, go_sem, k4], ret_bool HF.out.symm, SH'.out.ext⟩
  case stop =>
    rintro D c pre W hD hSp ⟨⟨rfl, hno⟩, p, S⟩ hK
    have HF : Hid (halfB O T = false) := by unfold Hid; rw [hhb.out]; exact okFrom_no hno hSp
    have S' := S.putObj (halfPc_cells w.heap.size b po no co pt nt ct _ false) (.deferred none) (Nat.le_trans S4.out.ext.size hD) hK rfl
    have k4 := (S'.blk 5 rfl).cell 0
    have SH := Lib.hid S; clear S
    have SH' := Lib.hid S'; clear S'
    refine wpIn_wide.2 ?_
    go_wp2
    refine ⟨by simp, .inl ⟨_, _, rfl, run_takeDeferred hK, ?_⟩⟩
    exact ⟨.bool false, by simp [results, Tryz.results85, go_sem, k4], ret_bool HF.out.symm, SH'.out.ext⟩
theorem halfG (po : Option Addr) (no co : Nat) (O : List Int) (pt : Option Addr) (nt ct : Nat) (T : List Int) (w : World) (hO : Rd w 1 po no (encI O)) (hT : Rd w 1 pt nt (encI T)) (hct : nt ≤ ct) : Calls Tryz.prog 85 #[.slice po no co, .slice pt nt ct] w fun e w' => e = .returned (.bool (halfB O T)) ∧ Ext w w' := by
  cases h : offB O T with
  | false =>
    have : halfB O T = false := by unfold halfB; rw [h]; rfl
    rw [this]
    exact halfG_no po no co O pt nt ct T w hO hT hct h
  | true => exact halfG_yes po no co O pt nt ct T w hO hT hct h
end Go.Proofs.YtkekibnhmfmhmaaGreat
/- The program's Check of rows. -/
namespace Go.Proofs.YtkekibnhmfmhmaaGreat
open Go Go.RowKit Go.Shelf Go.Lib
attribute [local go_sem] Oper.semAt_some
theorem BinI (p : Option Addr) (n c : Nat) (l : List Int) (x : Int) (w : World) (hl : Rd w 1 p n (encI l)) (hs : Rises ltI l) (hn : n ≤ 1000000) :
    Calls Tryz.prog 87 #[.slice p n c, .int .i64 x] w fun e w' => e = .returned (.tuple #[.int .i64 (l.countP (· < x) : Nat), .bool (inB l x)]) ∧ Ext w w' := by
  have ln := hl.nI
  have hin : inB l x = l.contains x := by rw [Bool.eq_iff_iff, inB_iff]; simp
  rw [hin]
  rcases hl.ptr with h0 | ⟨b, o, rfl⟩
  · subst h0
    have : l = [] := List.eq_nil_of_length_eq_zero ln.symm
    subst this
    exact (Any.slices_BinarySearch_int_empty Tryz.binI p c x w).mono fun e w' h => ⟨by have := h.1; simpa using this, by rw [h.2]; exact Below.refl _ _⟩
  · have ht : l.take n = l := List.take_of_length_le (by omega)
    have := Any.slices_BinarySearch_int Tryz.binI b o n c l x w (by omega) (by omega) (fun j hj => by
      have h1 := hl.cI (k := j) (by omega)
      rw [adr_some] at h1
      rw [h1, nth_eq hj, List.getD_eq_getElem?_getD, List.getElem?_eq_getElem hj]; rfl) (by rw [ht]; exact hs.imp (fun {a b} h => by simp [ltI] at h; omega))
    rw [ht] at this
    exact this.mono fun e w' h => ⟨h.1, by obtain ⟨q, hq⟩ := h.2; rw [hq]; exact Ext.drewN (Below.refl _ _) q⟩
theorem ContI (p : Option Addr) (n c : Nat) (l : List Int) (x : Int) (w : World) (hl : Rd w 1 p n (encI l)) :
    Calls Tryz.prog 80 #[.slice p n c, .int .i64 x] w fun e w' => e = .returned (.bool (inB l x)) ∧ Ext w w' := by
  have ln := hl.nI
  have hin : inB l x = l.contains x := by rw [Bool.eq_iff_iff, inB_iff]; simp
  rw [hin]
  rcases hl.ptr with h0 | ⟨b, o, rfl⟩
  · subst h0
    have : l = [] := List.eq_nil_of_length_eq_zero ln.symm
    subst this
    exact (Any.slices_Contains_int_empty Tryz.hasI p c x w).mono fun e w' h => ⟨by have := h.1; simpa using this, by rw [h.2]; exact Below.refl _ _⟩
  · have ht : l.take n = l := List.take_of_length_le (by omega)
    have := Any.slices_Contains_int Tryz.hasI b o n c l x w (by omega) hl.small (fun j hj => by
      have h1 := hl.cI (k := j) (by omega)
      rw [adr_some] at h1
      rw [h1, nth_eq hj, List.getD_eq_getElem?_getD, List.getElem?_eq_getElem hj]; rfl)
    rw [ht] at this
    exact this.mono fun e w' h => ⟨h.1, by rw [h.2]; exact Below.refl _ _⟩
theorem checkR_no {O T R V : List Int} (h : O.length ≠ R.length ∨ T.length ≠ V.length ∨ halfB O T = false ∨ halfB R V = false) : checkR O T R V = false := by
  unfold checkR
  rcases h with h | h | h | h <;> simp [h]
set_option maxRecDepth 100000 in
set_option maxHeartbeats 4000000 in
theorem CheckR_no (po : Option Addr) (no co : Nat) (O : List Int) (pt : Option Addr) (nt ct : Nat) (T : List Int) (pr : Option Addr) (nr cr : Nat) (R : List Int) (pv : Option Addr) (nv cv : Nat) (V : List Int) (w : World) (hO : Rd w 1 po no (encI O)) (hT : Rd w 1 pt nt (encI T)) (hR : Rd w 1 pr nr (encI R)) (hV : Rd w 1 pv nv (encI V)) (hct : nt ≤ ct) (hcv : nv ≤ cv) (h : no ≠ nr ∨ nt ≠ nv ∨ halfB O T = false ∨ halfB R V = false) :
    Calls Tryz.prog 56 #[.agg #[.slice po no co, .slice pt nt ct, .slice pr nr cr, .slice pv nv cv]] w fun e w' => e = .returned (.bool false) ∧ Ext w w' := by
  have n1 := hO.small
  have n2 := hT.small
  have n3 := hR.small
  have n4 := hV.small
  have S0 := Lib.hid (((Sep.start w).al #[.slice po no co, .slice pt nt ct, .slice pr nr cr, .slice pv nv cv] 41 w.heap.size rfl).al #[.bool false] 4 (w.heap.size + 1) (by simp))
  have HH1 := Lib.hid (fun W1 (h : Ext w W1) => halfG po no co O pt nt ct T W1 (hO.ext h) (hT.ext h) hct)
  have HH2 := Lib.hid (fun W1 (h : Ext w W1) => halfG pr nr cr R pv nv cv V W1 (hR.ext h) (hV.ext h) hcv)
  clear hO hT hR hV
  by_cases h1 : no = nr
  · have d1 : ((no:Int) != (nr:Int)) = false := by simp; omega
    by_cases h2 : nt = nv
    · have d2 : ((nt:Int) != (nv:Int)) = false := by simp; omega
      cases h3 : halfB O T with
      | false =>
        rw [h3] at HH1
        clear h h1 h2 h3
        go_enter Tryz.func56, Tryz.ntmps56
        go_wp2_with (go_at_call 85; go_must (refine (HH1.out _ S0.out.ext).mono ?_; rintro e w1 ⟨rfl, hb⟩; have S1 := Lib.hid (S0.out.call hb); have a0 := (S1.out.blk 1 rfl).cell 0; have a1 := (S1.out.blk 1 rfl).cell 1; have a2 := (S1.out.blk 1 rfl).cell 2; have a3 := (S1.out.blk 1 rfl).cell 3; have za := (S1.out.blk 1 rfl).lt; have b0 := (S1.out.blk 0 rfl).cell 0; have f0 := (S1.out.blk 0 rfl).frozen 0; have zb := (S1.out.blk 0 rfl).lt; clear hb))
        refine bodyPost_ret (v := .bool false) (by simp [results, Tryz.results56, go_sem, b0]) rfl ⟨rfl, (S1.out.set 0 rfl 0 _).ext⟩
      | true =>
        have h4 : halfB R V = false := by
          rcases h with h | h | h | h
          · exact absurd h1 h
          · exact absurd h2 h
          · rw [h3] at h; cases h
          · exact h
        rw [h3] at HH1
        rw [h4] at HH2
        clear h h1 h2 h3 h4
        go_enter Tryz.func56, Tryz.ntmps56
        go_wp2_with (first | (go_at_call 85; have _t := S1; go_must (refine (HH2.out _ S1.out.ext).mono ?_; rintro e w2 ⟨rfl, hb⟩; have S2 := Lib.hid (S1.out.call hb); have A0 := (S2.out.blk 1 rfl).cell 0; have A1 := (S2.out.blk 1 rfl).cell 1; have A2 := (S2.out.blk 1 rfl).cell 2; have A3 := (S2.out.blk 1 rfl).cell 3; have zA := (S2.out.blk 1 rfl).lt; have B0 := (S2.out.blk 0 rfl).cell 0; have F0 := (S2.out.blk 0 rfl).frozen 0; have zB := (S2.out.blk 0 rfl).lt; clear hb)) | (go_at_call 85; go_must (refine (HH1.out _ S0.out.ext).mono ?_; rintro e w1 ⟨rfl, hb⟩; have S1 := Lib.hid (S0.out.call hb); have a0 := (S1.out.blk 1 rfl).cell 0; have a1 := (S1.out.blk 1 rfl).cell 1; have a2 := (S1.out.blk 1 rfl).cell 2; have a3 := (S1.out.blk 1 rfl).cell 3; have za := (S1.out.blk 1 rfl).lt; have b0 := (S1.out.blk 0 rfl).cell 0; have f0 := (S1.out.blk 0 rfl).frozen 0; have zb := (S1.out.blk 0 rfl).lt; clear hb)))
        refine bodyPost_ret (v := .bool false) (by simp [results, Tryz.results56, go_sem, B0]) rfl ⟨rfl, (S2.out.set 0 rfl 0 _).ext⟩
    · have d2 : ((nt:Int) != (nv:Int)) = true := by simp; omega
      clear h h1 h2
      go_enter Tryz.func56, Tryz.ntmps56
      go_wp2
      refine bodyPost_ret (v := .bool false) (by simp [results, Tryz.results56, go_sem]) rfl ⟨rfl, ?_⟩
      first | exact S0.out.ext | exact (S0.out.set 0 rfl 0 _).ext
  · have d1 : ((no:Int) != (nr:Int)) = true := by simp; omega
    clear h h1
    go_enter Tryz.func56, Tryz.ntmps56
    go_wp2
    refine bodyPost_ret (v := .bool false) (by simp [results, Tryz.results56, go_sem]) rfl ⟨rfl, ?_⟩
    first | exact S0.out.ext | exact (S0.out.set 0 rfl 0 _).ext
end Go.Proofs.YtkekibnhmfmhmaaGreat
/- The program's Check of rows, where both halves are right: each pair is looked for, turned. -/
namespace Go.Proofs.YtkekibnhmfmhmaaGreat
open Go Go.RowKit Go.Shelf Go.Lib
attribute [local go_sem] Oper.semAt_some
def chkPc (a b : Nat) (po : Option Addr) (no co : Nat) (pt : Option Addr) (nt ct : Nat) (pr : Option Addr) (nr cr : Nat) (pv : Option Addr) (nv cv : Nat) (r : Bool) : List Pc :=
  [.blk (b + 1) 39 #[.slice pt nt ct], .blk b 39 #[.slice po no co], .blk (a + 1) 4 #[.bool r], .blk a 41 #[.slice po no co, .slice pt nt ct, .slice pr nr cr, .slice pv nv cv]]
theorem chkPc_cells (a b : Nat) (po : Option Addr) (no co : Nat) (pt : Option Addr) (nt ct : Nat) (pr : Option Addr) (nr cr : Nat) (pv : Option Addr) (nv cv : Nat) (r : Bool) : ∀ q ∈ chkPc a b po no co pt nt ct pr nr cr pv nv cv r, q.cells :=
  cells_all fun q hq => by simp [chkPc] at hq; rcases hq with h | h | h | h <;> exact .inl ⟨_, _, _, h⟩
/-- the pair stands in the other rows, turned -/
def backB (R V : List Int) (x : Int × Int) : Bool := inB (rowL R V x.2.toNat) x.1
theorem pair_bd {O T : List Int} (h : halfB O T = true) {x : Int × Int} (hx : x ∈ pairs O T) : 0 ≤ x.1 ∧ x.1 < ((O.length - 1 : Nat) : Int) ∧ 0 ≤ x.2 ∧ x.2 < ((O.length - 1 : Nat) : Int) := by
  obtain ⟨v, h1, h2, h3⟩ := mem_pairs.1 hx
  unfold halfB at h
  rw [Bool.and_eq_true] at h
  have := List.all_eq_true.1 h.2 v (List.mem_range.2 h1)
  have := (okRow_iff.1 this).1 _ h3
  omega
theorem row_rises {O T : List Int} (h : halfB O T = true) {v : Nat} (hv : v < O.length - 1) : Rises ltI (rowL O T v) := by
  unfold halfB at h
  rw [Bool.and_eq_true] at h
  exact (okRow_iff.1 (List.all_eq_true.1 h.2 v (List.mem_range.2 hv))).2
theorem halfB_off {O T : List Int} (h : halfB O T = true) : offB O T = true := by
  unfold halfB at h
  rw [Bool.and_eq_true] at h
  exact h.1
set_option maxRecDepth 100000 in
set_option maxHeartbeats 4000000 in
theorem CheckR_yes (po : Option Addr) (no co : Nat) (O : List Int) (pt : Option Addr) (nt ct : Nat) (T : List Int) (pr : Option Addr) (nr cr : Nat) (R : List Int) (pv : Option Addr) (nv cv : Nat) (V : List Int) (w : World) (hO : Rd w 1 po no (encI O)) (hT : Rd w 1 pt nt (encI T)) (hR : Rd w 1 pr nr (encI R)) (hV : Rd w 1 pv nv (encI V)) (hct : nt ≤ ct) (hcv : nv ≤ cv) (e1 : no = nr) (e2 : nt = nv) (h1 : halfB O T = true) (h2 : halfB R V = true) :
    Calls Tryz.prog 56 #[.agg #[.slice po no co, .slice pt nt ct, .slice pr nr cr, .slice pv nv cv]] w fun e w' => e = .returned (.bool ((pairs O T).all (backB R V))) ∧ Ext w w' := by
  have n1 := hO.small
  have n2 := hT.small
  have n3 := hR.small
  have n4 := hV.small
  have l1 := hO.nI
  have l2 := hT.nI
  have l3 := hR.nI
  have l4 := hV.nI
  have pR := hR.ptr
  have S0 := Lib.hid (((Sep.start w).al #[.slice po no co, .slice pt nt ct, .slice pr nr cr, .slice pv nv cv] 41 w.heap.size rfl).al #[.bool false] 4 (w.heap.size + 1) (by simp))
  have HH1 := Lib.hid (fun W1 (h : Ext w W1) => halfG po no co O pt nt ct T W1 (hO.ext h) (hT.ext h) hct)
  have HH2 := Lib.hid (fun W1 (h : Ext w W1) => halfG pr nr cr R pv nv cv V W1 (hR.ext h) (hV.ext h) hcv)
  rw [h1] at HH1
  rw [h2] at HH2
  have d1 : ((no:Int) != (nr:Int)) = false := by simp; omega
  have d2 : ((nt:Int) != (nv:Int)) = false := by simp; omega
  have HOK := Lib.hid (offOk_of (halfB_off h1))
  have HOK2 := Lib.hid (offOk_of (halfB_off h2))
  have HPB := Lib.hid (fun x (hx : x ∈ pairs O T) => pair_bd h1 hx)
  have HRR := Lib.hid (fun v (hv : v < R.length - 1) => row_rises h2 hv)
  have r3 := (offB_parts (halfB_off h2)).2.2.1
  have hO0 : 0 < no → (adr po 0).block < w.heap.size := fun h => hO.lt (by omega)
  have hT0 : 0 < nt → (adr pt 0).block < w.heap.size := fun h => hT.lt (by omega)
  have L1 := Lib.hid l1
  have L3 := Lib.hid l3
  have L4 := Lib.hid l4
  have E1 := Lib.hid e1
  have E2 := Lib.hid e2
  have HO := Lib.hid hO; clear hO
  have HT := Lib.hid hT; clear hT
  have HR := Lib.hid hR; clear hR
  have HV := Lib.hid hV; clear hV
  clear h1 h2 l1 l2 l3 l4 e1 e2
  refine (callsIn_wide (n := 9)).1 ?_
  refine callsIn_of_wp_marks Tryz.func56 rfl trivial ?_ rfl
  simp only [Tryz.ntmps56, List.size_toArray, List.length_cons, List.length_nil, Nat.reduceAdd, Nat.reduceSub, Array.replicate_succ, Array.replicate_zero, List.push_toArray, List.append_toArray, List.nil_append, List.cons_append]
  refine wpIn_wide.2 ?_
  go_wp2_with (first
    | (go_at_call 86; go_must (refine (allG po no co pt nt ct _).mono ?_; rintro e w3 ⟨rfl, hw3⟩; have S3 := (S2.out.al #[.slice po no co] 39 w2.heap.size rfl).al #[.slice pt nt ct] 39 (w2.heap.size + 1) (by simp); rw [← hw3] at S3; have S4 := Lib.hid (S3 : Sep w w3 (chkPc w.heap.size w2.heap.size po no co pt nt ct pr nr cr pv nv cv false)); clear S3 hw3))
    | (go_at_call 85; have _t := S1; go_must (refine (HH2.out _ S1.out.ext).mono ?_; rintro e w2 ⟨rfl, hb⟩; have S2 := Lib.hid (S1.out.call hb); have A0 := (S2.out.blk 1 rfl).cell 0; have A1 := (S2.out.blk 1 rfl).cell 1; have zA := (S2.out.blk 1 rfl).lt; clear hb))
    | (go_at_call 85; go_must (refine (HH1.out _ S0.out.ext).mono ?_; rintro e w1 ⟨rfl, hb⟩; have S1 := Lib.hid (S0.out.call hb); have a2 := (S1.out.blk 1 rfl).cell 2; have a3 := (S1.out.blk 1 rfl).cell 3; have za := (S1.out.blk 1 rfl).lt; clear hb)))
  clear S0 S1 S2 HH1 HH2 A0 A1 a2 a3
  generalize w2.heap.size = b at *
  refine wpIn_wide.1 (wpIn_rangeFunc_ownG (F := Fence.wide) (n := 9) rfl (by omega) (gf := 123) (lb := #[.pointer (some ⟨b, 0, none⟩), .pointer (some ⟨b + 1, 0, none⟩)]) rfl trivial (enters_of Tryz.func123 (by kernel_rfl) rfl)
    (all_stops 8 (by omega) b (b + 1) w.heap.size po no co pt nt ct O T w3 S4.out.ext.size (S4.out.blk 1 rfl) (S4.out.blk 0 rfl) (HO.out.ext S4.out.ext) (HT.out.ext S4.out.ext) hO0 hT0 HOK.out hct)
    (fun h k => KpA.trans h k) (kpA_b S4.out.ext.size (S4.out.blk 1 rfl).lt (S4.out.blk 0 rfl).lt) (Below.refl _ _) (fun _ => rfl)
    (fun pre W => (pre.map (·.1)).all (backB R V) = true ∧ Sep w W (chkPc w.heap.size b po no co pt nt ct pr nr cr pv nv cv false))
    (fun c pre W => (c = .ret ∧ (pre.map (·.1)).all (backB R V) = false) ∧ Sep w W (chkPc w.heap.size b po no co pt nt ct pr nr cr pv nv cv false))
    ?hI ?hIx ⟨rfl, S4.out⟩ ?a1 ?assign ?body ?done ?stop)
  case hI => exact fun s A B row hs hg hr => ⟨hs.1, hs.2.turn (chkPc_cells _ _ _ _ _ _ _ _ _ _ _ _ _ _ _) S4.out.ext.size hg hr⟩
  case hIx => exact fun c s A B row hs hg hr => ⟨hs.1, hs.2.turn (chkPc_cells _ _ _ _ _ _ _ _ _ _ _ _ _ _ _) S4.out.ext.size hg hr⟩
  case assign =>
    intro l x W K hK
    gi_wp2
    exact hK
  case body =>
    rintro l pre ⟨⟨v, u⟩, hx⟩ W ⟨ho, S⟩ _
    have hm : (pre ++ [(⟨(v, u), hx⟩ : PairOf O T)]).map (·.1) = pre.map (·.1) ++ [(v, u)] := by simp
    have hsn : ((pre ++ [(⟨(v, u), hx⟩ : PairOf O T)]).map (·.1)).all (backB R V) = backB R V (v, u) := by rw [hm, List.all_append, ho]; simp
    have HSN := Lib.hid hsn
    obtain ⟨x1, x2, x3, x4⟩ := HPB.out _ hx
    simp only at x1 x2 x3 x4
    obtain ⟨k, rfl⟩ : ∃ k : Nat, u = (k : Int) := ⟨u.toNat, by omega⟩
    have hk1 : k + 1 < R.length := by have := L1.out; have := L3.out; have := E1.out; omega
    have hk2 : k + 1 < nr := by rw [L3.out]; exact hk1
    have q1 := HOK2.out.lo k (by omega)
    have q2 := HOK2.out.le k hk1
    have q3 := HOK2.out.hi (k + 1) hk1
    have RR := HR.out.ext S.ext
    have g1 := RR.cI (k := k) (by omega)
    have g2 := RR.cI (k := k + 1) (by omega)
    have RL := (HV.out.ext S.ext).rowOf HOK2.out hcv hk1
    have hrs := HRR.out k (by omega)
    have hbk : backB R V (v, (k:Int)) = inB (rowL R V k) v := by unfold backB; simp
    obtain ⟨a, ha⟩ : ∃ a : Nat, nth R k = (a : Int) := ⟨(nth R k).toNat, by omega⟩
    obtain ⟨c, hc⟩ : ∃ c : Nat, nth R (k + 1) = (c : Int) := ⟨(nth R (k + 1)).toNat, by omega⟩
    rw [ha] at g1 q1 q2 RL
    rw [hc] at g2 q2 q3 RL
    have hq3 : (c:Int) ≤ cv := by have := L4.out; omega
    simp only [Int.toNat_natCast] at RL
    have HB := Lib.hid (fun x : ExtOf W => BinI (cutp pv cv a 1) (c - a) (cv - a) (rowL R V k) v x.val (RL.ext x.ext) hrs (by have := L4.out; omega))
    have c0 := (S.blk 3 rfl).cell 2
    have c1 := (S.blk 3 rfl).cell 3
    have c4 := (S.blk 2 rfl).cell 0
    have f4 := (S.blk 2 rfl).frozen 0
    have z4 := (S.blk 2 rfl).lt
    have d3 : (0:Int) ≤ k := by omega
    have d4 : (k:Int) < nr := by omega
    have d5 : (0:Int) ≤ (k:Int) + 1 := by omega
    have d6 : (k:Int) + 1 < nr := by omega
    rw [hbk] at HSN
    have SH := Lib.hid S; clear S
    clear hsn hm ho S4 HO HT HR HV HOK HOK2 hO0 hT0 HPB HRR RR RL ha hc hrs hbk x1 x2 x3 x4 q3
    cases hin : inB (rowL R V k) v with
    | true =>
      rw [hin] at HB HSN
      clear hin
      gi_wp2
      have y0 := fun x : ExtOf W => x.ext.cell c0
      have y1 := fun x : ExtOf W => x.ext.cell c1
      have y2 := fun x : ExtOf W => x.ext.cell g1
      have y3 := fun x : ExtOf W => x.ext.cell g2
      refine wpIn_region_ext (by kernel_rfl) (by kernel_rfl) (by kernel_rfl) ?_
      repeat (go_big_quiet_step ((go_at_call 87; exact Calls.ext_of (HB.out _))))
      refine wpQuiet_nil ?_
      rintro w5 ⟨⟨_, hb5⟩, rfl⟩
      have S5 := Lib.hid (SH.out.call hb5)
      clear y0 y1 y2 y3
      gi_wp2
      exact ⟨(keeps_ext hb5).from _, kpA_of SH.out.ext S5.out.ext hb5.size (SH.out.blk 1 rfl) (SH.out.blk 0 rfl) (S5.out.blk 1 rfl) (S5.out.blk 0 rfl), HSN.out, S5.out⟩
    | false =>
      rw [hin] at HB HSN
      clear hin
      gi_wp2
      have y0 := fun x : ExtOf W => x.ext.cell c0
      have y1 := fun x : ExtOf W => x.ext.cell c1
      have y2 := fun x : ExtOf W => x.ext.cell g1
      have y3 := fun x : ExtOf W => x.ext.cell g2
      refine wpIn_region_ext (by kernel_rfl) (by kernel_rfl) (by kernel_rfl) ?_
      repeat (go_big_quiet_step ((go_at_call 87; exact Calls.ext_of (HB.out _))))
      refine wpQuiet_nil ?_
      rintro w5 ⟨⟨_, hb5⟩, rfl⟩
      have S5 := Lib.hid (SH.out.call hb5)
      have k4 := (S5.out.blk 2 rfl).cell 0
      have kf := (S5.out.blk 2 rfl).frozen 0
      have kz := (S5.out.blk 2 rfl).lt
      clear y0 y1 y2 y3 c4 f4 z4
      gi_wp2
      exact ⟨((keeps_ext hb5).trans (KeepsOthers.setCell _ _ _)).from _, ⟨rfl, HSN.out⟩, S5.out.set 2 rfl 0 (.bool false)⟩
  case done =>
    rintro D ys W hD hys ⟨ho, S⟩ hK
    have HF : Hid ((pairs O T).all (backB R V) = true) := by unfold Hid; rw [← hys]; exact ho
    have c4 := (S.blk 2 rfl).cell 0
    have f4 := (S.blk 2 rfl).frozen 0
    have z4 := (S.blk 2 rfl).lt
    have hKs := (KeepsOthers.setCell W ⟨w.heap.size + 1, 0, none⟩ (.bool true)).same D _ hK rfl
    have S' := (S.set 2 rfl 0 (.bool true)).putObj (chkPc_cells w.heap.size b po no co pt nt ct pr nr cr pv nv cv true) (.deferred none) (Nat.le_trans S4.out.ext.size hD) hKs rfl
    have k4 := (S'.blk 2 rfl).cell 0
    have SH := Lib.hid S; clear S
    have SH' := Lib.hid S'; clear S'
    go_wp2
    refine ⟨by simp, .inl ⟨_, _, rfl, run_takeDeferred hKs, ?_⟩⟩
    exact ⟨.bool true, by simp [results, Tryz.results56, go_sem, k4], ret_bool HF.out.symm, SH'.out.ext⟩
  case stop =>
    rintro D c pre W hD hSp ⟨⟨rfl, hno⟩, S⟩ hK
    have HF : Hid ((pairs O T).all (backB R V) = false) := by
      obtain ⟨t, ht⟩ := hSp
      unfold Hid; rw [← ht, List.all_append, hno]; rfl
    have S' := S.putObj (chkPc_cells w.heap.size b po no co pt nt ct pr nr cr pv nv cv false) (.deferred none) (Nat.le_trans S4.out.ext.size hD) hK rfl
    have k4 := (S'.blk 2 rfl).cell 0
    have SH := Lib.hid S; clear S
    have SH' := Lib.hid S'; clear S'
    refine wpIn_wide.2 ?_
    go_wp2
    refine ⟨by simp, .inl ⟨_, _, rfl, run_takeDeferred hK, ?_⟩⟩
    exact ⟨.bool false, by simp [results, Tryz.results56, go_sem, k4], ret_bool HF.out.symm, SH'.out.ext⟩
theorem CheckR (po : Option Addr) (no co : Nat) (O : List Int) (pt : Option Addr) (nt ct : Nat) (T : List Int) (pr : Option Addr) (nr cr : Nat) (R : List Int) (pv : Option Addr) (nv cv : Nat) (V : List Int) (w : World) (hO : Rd w 1 po no (encI O)) (hT : Rd w 1 pt nt (encI T)) (hR : Rd w 1 pr nr (encI R)) (hV : Rd w 1 pv nv (encI V)) (hct : nt ≤ ct) (hcv : nv ≤ cv) : Calls Tryz.prog 56 #[.agg #[.slice po no co, .slice pt nt ct, .slice pr nr cr, .slice pv nv cv]] w fun e w' => e = .returned (.bool (checkR O T R V)) ∧ Ext w w' := by
  have l1 := hO.nI
  have l2 := hT.nI
  have l3 := hR.nI
  have l4 := hV.nI
  by_cases h : no ≠ nr ∨ nt ≠ nv ∨ halfB O T = false ∨ halfB R V = false
  · rw [checkR_no (by rw [← l1, ← l2, ← l3, ← l4]; exact h)]
    exact CheckR_no po no co O pt nt ct T pr nr cr R pv nv cv V w hO hT hR hV hct hcv h
  · have h1 : no = nr := by
      by_cases h1 : no = nr
      · exact h1
      · exact absurd (.inl h1) h
    have h2 : nt = nv := by
      by_cases h2 : nt = nv
      · exact h2
      · exact absurd (.inr (.inl h2)) h
    have h3 : halfB O T = true := by
      cases h3 : halfB O T with
      | true => rfl
      | false => exact absurd (.inr (.inr (.inl h3))) h
    have h4 : halfB R V = true := by
      cases h4 : halfB R V with
      | true => rfl
      | false => exact absurd (.inr (.inr (.inr h4))) h
    have : checkR O T R V = (pairs O T).all (backB R V) := by
      unfold checkR
      rw [h3, h4, ← l1, ← l2, ← l3, ← l4, h1, h2]
      simp only [decide_true, Bool.true_and]
      rfl
    rw [this]
    exact CheckR_yes po no co O pt nt ct T pr nr cr R pv nv cv V w hO hT hR hV hct hcv h1 h2 h3 h4
end Go.Proofs.YtkekibnhmfmhmaaGreat
