import Derived.Test.YtcjkechemjdboaaG4
import Derived.Test.YtcjkechemjdboaaStrLaws
namespace Go.Proofs.Ytcjkechemjdboaa
open Go Go.RowKit Go.Shelf Go.Lib Go.Sort
def cmpS (a b : ByteArray) : Int := compareBytes a.data.toList b.data.toList
theorem ltOf_cmpS (x y : ByteArray) : ltOf cmpS x y = sLess x y := by
  unfold ltOf cmpS sLess; rw [ByteArray.toList_eq, ByteArray.toList_eq]; exact cb_lt _ _
theorem swoS : SWO (ltOf cmpS) where
  irrefl x := by rw [ltOf_cmpS]; exact sLess_irrefl x
  trans x y z h1 h2 := by rw [ltOf_cmpS] at *; exact sLess_trans x y z h1 h2
  ntrans x y z h1 h2 := by
    rw [ltOf_cmpS] at *
    rw [← Bool.not_eq_true]
    intro h3
    by_cases h4 : sLess z y = true
    · rw [sLess_trans x z y h3 h4] at h1; cases h1
    · have h5 := sLess_tri y z h2 (by simpa using h4)
      subst h5
      rw [h3] at h1; cases h1
theorem totS (x y : ByteArray) (h1 : ltOf cmpS x y = false) (h2 : ltOf cmpS y x = false) : x = y := by
  rw [ltOf_cmpS] at *; exact sLess_tri x y h1 h2
theorem CompareS (a b : ByteArray) (w : World) : Calls Try.prog 117 #[.string a, .string b] w fun e w' => e = .returned (.int .i64 (cmpS a b)) ∧ w' = w :=
  Any.strings_Compare Try.strCmp a b w
theorem own_block {w : World} {base : Nat} {e : TypeId} {size n c : Nat} {q : Option Addr} {xs : List Value} (ho : w.ownsRow base e size (.slice q n c) n xs) (h0 : n ≠ 0) : ∃ g, q = some ⟨g, 0, none⟩ ∧ g < w.heap.size := by
  obtain ⟨p, c', h1, h2, _⟩ := own_form ho
  injection h1 with h1
  rcases h2 with h2 | ⟨g, h2, _, h3⟩
  · exfalso
    rcases ho.2 with ⟨_, h4⟩ | ⟨g', cap, cur, h4, _⟩
    · exact h0 h4
    · injection h4 with h4; rw [h1, h2] at h4; cases h4
  · exact ⟨g, by rw [h1, h2], h3⟩
theorem own_free {w : World} {base : Nat} {e : TypeId} {size n c g : Nat} {xs : List Value} (ho : w.ownsRow base e size (.slice (some ⟨g, 0, none⟩) n c) n xs) (j : Nat) : w.frozen? ⟨g, j, none⟩ = false := by
  rcases ho.2 with ⟨h1, _⟩ | ⟨g', cap, cur, h1, _, hh, _⟩
  · cases h1
  · injection h1 with h1; injection h1 with h1; injection h1 with h1; subst h1
    simp [World.frozen?, hh]
theorem holdsS {w : World} {base n c g : Nat} {l : List ByteArray} (ho : w.ownsRow base 9 1 (.slice (some ⟨g, 0, none⟩) n c) n (encS l)) (hn : n ≤ 1000000) : Holds Value.string w g 0 l.toArray := by
  intro j hj
  have hl : n = l.length := by have := ho.1; rw [encS_len] at this; omega
  have r := Rd.of_own ho (by omega)
  have hj2 : j < n := by simp at hj; omega
  have hc := r.cS hj2
  rw [adr_some] at hc
  refine ⟨?_, own_free ho _⟩
  rw [hc, getElem!_pos _ j hj, nth_eq (by omega)]; simp
theorem putRow_map (w : World) (g : Nat) (l : List ByteArray) : putRow Value.string w g 0 l.toArray = putRow id w g 0 (encS l).toArray := by
  unfold putRow
  congr 1
  funext c
  unfold putCells
  apply Array.ext_getElem?
  intro k
  simp only [Array.getElem?_mapIdx]
  cases c[k]? with
  | none => rfl
  | some x =>
    simp only [Option.map_some, Nat.zero_add, Nat.sub_zero, Nat.zero_le, true_and]
    congr 1
    have hs : (encS l).toArray.size = l.toArray.size := by simp [encS]
    rw [hs]
    by_cases h : k < l.toArray.size
    · rw [if_pos h, if_pos h, getElem!_pos _ k h, getElem!_pos _ k (by rw [hs]; exact h)]
      simp [encS]
    · rw [if_neg h, if_neg h]
theorem SortS (base : Nat) (q : Option Addr) (n c : Nat) (l : List ByteArray) (w : World) (ho : w.ownsRow base 9 1 (.slice q n c) n (encS l)) (hn : n ≤ 1000000) (hb : base ≤ w.heap.size) :
    Calls Try.prog 115 #[.slice q n c, .func (.func 117) #[] #[]] w fun e w' =>
      e = .returned (.tuple #[]) ∧ w'.ownsRow base 9 1 (.slice q n c) n (encS (sortBy sLess l)) ∧ w.grownBy w' (blkOf q) ∧ Below base w w' := by
  have hl : n = l.length := by have := ho.1; rw [encS_len] at this; omega
  by_cases h0 : n = 0
  · subst h0
    have hnil : l = [] := List.eq_nil_of_length_eq_zero hl.symm
    subst hnil
    refine (AnyF.slices_SortFunc_none { Try.sortS with } q c (.func (.func 117) #[] #[]) w).mono ?_
    rintro e w' ⟨he, rfl⟩
    exact ⟨he, by simpa [sortBy] using ho, World.grownBy.refl _ _, Below.refl _ _⟩
  · obtain ⟨g, hq, hg⟩ := own_block ho h0
    subst hq
    have eg : ∀ args w, (callFunc 117 args).run Try.prog w = .ok (.enter 117 args) w := enters_of Try.func117 (by kernel_rfl) rfl
    have hcon := Any.slices_SortFunc_total Try.sortS Value.string (fun _ => rfl) cmpS swoS 117 #[] g 0 c l.toArray w eg
      (fun m os dk hs x y => (CompareS x y _).mono fun _ _ ⟨he, hw⟩ => ⟨he, 0, #[], by rw [hw, grow_empty]; rfl⟩) (holdsS ho hn) hg (by simp; omega) totS
    have hsz : l.toArray.size = n := by simp [hl]
    rw [hsz] at hcon
    refine hcon.mono ?_
    rintro e w' ⟨he, m, os, rfl⟩
    have e1 : (fun x y => !(ltOf cmpS) y x) = fun x y : ByteArray => !sLess y x := by funext x y; rw [ltOf_cmpS]
    have hp := own_put ho (ys := encS (sortBy sLess l)) (by rw [encS_len, sortBy_len, hl, Nat.mul_one]) m os
    have e3 : sortWorld Value.string w g 0 m (l.toArray.toList.mergeSort fun x y => !(ltOf cmpS) y x).toArray os = grow (putRow id (Sort.ahead w m) g 0 (encS (sortBy sLess l)).toArray) os := by
      unfold sortWorld; rw [putRow_map, e1]; rfl
    rw [e3]
    exact ⟨he, hp.1, hp.2, Below.grown (Below.refl _ _) hp.2 hb (fun k hk => (ho.lt k hk).1)⟩
/-- neighbours that are the same, once -/
def dedup {α : Type} [DecidableEq α] [Inhabited α] (l : List α) : List α := compactUpTo l.toArray l.length
theorem strEql : EqlAt Try.prog 9 Value.string (fun x y => decide (x = y)) := by
  have h := EqlAt.string Try.prog 9
  have e : (fun x y : ByteArray => x.toList == y.toList) = fun x y => decide (x = y) := by funext x y; exact str_beq x y
  rwa [e] at h
theorem strNeq : NeqAt Try.prog 9 Value.string (fun x y => decide (x = y)) := by
  have h := NeqAt.string Try.prog 9
  have e : (fun x y : ByteArray => x.toList == y.toList) = fun x y => decide (x = y) := by funext x y; exact str_beq x y
  rwa [e] at h
theorem own_take {w : World} {base : Nat} {e : TypeId} {size n c k : Nat} {q : Option Addr} {xs ys : List Value} (ho : w.ownsRow base e size (.slice q n c) n (xs ++ ys)) (hk : xs.length = k * size) (hkn : k ≤ n) : w.ownsRow base e size (.slice q k c) k xs := by
  refine ⟨hk, ?_⟩
  rcases ho.2 with ⟨h1, h2⟩ | ⟨g', cap, cur, h1, hb, hh, hn, hm, hs, ht⟩
  · injection h1 with h1 _ h3; subst h1; subst h3
    left
    have : k = 0 := by omega
    subst this
    exact ⟨rfl, rfl⟩
  · injection h1 with h1 _ h3; subst h1; subst h3
    right
    refine ⟨g', c, cur, rfl, hb, hh, Nat.le_trans hkn hn, hm, hs, ?_⟩
    have h5 := congrArg (List.take (k * size)) ht
    rw [List.take_take, Nat.min_eq_left (Nat.mul_le_mul_right _ hkn), ← hk, List.take_left] at h5
    rw [← hk]; exact h5
set_option maxRecDepth 100000 in
theorem CompactS0 (q : Option Addr) (c : Nat) (w : World) : Calls Try.prog 116 #[.slice q 0 c] w fun e w' => e = .returned (.slice q 0 c) ∧ w' = w := by
  go_enter Try.func116, Try.ntmps116
  go_wp2
  go_ret
  exact ⟨rfl, rfl⟩
theorem CompactSC (base : Nat) (q : Option Addr) (n c : Nat) (l : List ByteArray) (w : World) (ho : w.ownsRow base 9 1 (.slice q n c) n (encS l)) (hn : n ≤ 1000000) (hb : base ≤ w.heap.size) :
    Calls Try.prog 116 #[.slice q n c] w fun e w' => e = .returned (.slice q (dedup l).length c) ∧ w'.ownsRow base 9 1 (.slice q (dedup l).length c) (dedup l).length (encS (dedup l)) ∧ w.grownBy w' (blkOf q) ∧ Below base w w' := by
  have hl : n = l.length := by have := ho.1; rw [encS_len] at this; omega
  by_cases h0 : n = 0
  · subst h0
    have hnil : l = [] := List.eq_nil_of_length_eq_zero hl.symm
    subst hnil
    refine (CompactS0 q c w).mono ?_
    rintro e w' ⟨he, rfl⟩
    exact ⟨he, ho, World.grownBy.refl _ _, Below.refl _ _⟩
  · obtain ⟨g, hq, hg⟩ := own_block ho h0
    subst hq
    have hcon := AnyE.slices_Compact Try.compS Value.string (fun _ => rfl) strEql strNeq ByteArray.empty (fun w => by kernel_rfl) g 0 c l.toArray w (holdsS ho hn) (by simp; omega) (by have := own_cap ho; simp; omega)
    have hsz : l.toArray.size = n := by simp [hl]
    rw [hsz] at hcon
    refine hcon.mono ?_
    rintro e w' ⟨he, m, rfl⟩
    have hd : compactUpTo l.toArray n = dedup l := by unfold dedup; rw [hl]
    rw [hd] at he ⊢
    have hdl : (dedup l).length ≤ n := by
      unfold dedup compactUpTo; rw [hl, List.length_map]
      exact Nat.le_trans (List.length_filter_le _ _) (by simp)
    have e3 : putRow Value.string (Sort.ahead w m) g 0 (dedup l ++ List.replicate (n - (dedup l).length) ByteArray.empty).toArray = grow (putRow id (Sort.ahead w m) g 0 (encS (dedup l) ++ encS (List.replicate (n - (dedup l).length) ByteArray.empty)).toArray) #[] := by
      rw [putRow_map, grow_empty]; simp [encS]
    rw [e3]
    have hp := own_put ho (ys := encS (dedup l) ++ encS (List.replicate (n - (dedup l).length) ByteArray.empty)) (by rw [List.length_append, encS_len, encS_len, List.length_replicate]; omega) m #[]
    exact ⟨he, own_take hp.1 (by rw [encS_len, Nat.mul_one]) hdl, hp.2, Below.grown (Below.refl _ _) hp.2 hb (fun k hk => (ho.lt k hk).1)⟩
end Go.Proofs.Ytcjkechemjdboaa
