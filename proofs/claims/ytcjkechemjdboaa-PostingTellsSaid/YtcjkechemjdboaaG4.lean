import Derived.Test.YtcjkechemjdboaaG3
import Derived.Test.YtcjkechemjdboaaLay
namespace Go.Proofs.Ytcjkechemjdboaa
open Go Go.RowKit Go.Shelf Go.Lib Go.Sort
/-- one edge's two cells -/
def encP (x : Int × Int) : List Value := [.int .i64 x.1, .int .i64 x.2]
theorem grow3 (W : World) (o1 o2 o3 : Obj) : (((W.alloc o1).alloc o2).alloc o3).drew = grow (W.drewN 1) #[o1, o2, o3] := by
  rw [alloc_eq_grow, alloc_eq_grow, alloc_eq_grow, grow_grow, grow_grow]; rfl
set_option maxRecDepth 100000 in
set_option maxHeartbeats 1000000 in
/-- the function that edges are sorted by: in whatever world: blocks are laid -/
theorem EdgesLit (x y : Int × Int) (W : World) : Calls Try.prog 111 #[.agg #[.int .i64 x.1, .int .i64 x.2], .agg #[.int .i64 y.1, .int .i64 y.2]] W fun e w' => e = .returned (.int .i64 (cmpE x y)) ∧ ∃ q os', w' = grow (W.drewN q) os' := by
  have HC1 := Lib.hid (fun W' => CompareInt x.1 y.1 W')
  have HC2 := Lib.hid (fun W' => CompareInt x.2 y.2 W')
  obtain ⟨c1, h1⟩ : ∃ c, c = cmpI x.1 y.1 := ⟨_, rfl⟩
  obtain ⟨c2, h2⟩ : ∃ c, c = cmpI x.2 y.2 := ⟨_, rfl⟩
  rw [← h1] at HC1
  rw [← h2] at HC2
  have HF : Hid (cmpE x y = orI c1 c2) := by unfold Hid cmpE; rw [h1, h2]
  clear h1 h2
  go_enter Try.func111, Try.ntmps111
  go_wp2
  obtain ⟨w0, hw0⟩ : ∃ w0, w0 = (W.alloc (.cells #[.int .i64 x.1, .int .i64 x.2] 71)).alloc (.cells #[.int .i64 y.1, .int .i64 y.2] 71) := ⟨_, rfl⟩
  rw [← hw0]
  have a0 : w0.cell? ⟨W.heap.size, 0, none⟩ = some (.int .i64 x.1) := by rw [hw0]; simp
  have a1 : w0.cell? ⟨W.heap.size, 1, none⟩ = some (.int .i64 x.2) := by rw [hw0]; simp
  have a2 : w0.cell? ⟨W.heap.size + 1, 0, none⟩ = some (.int .i64 y.1) := by rw [hw0]; have := cellnew0 (W.alloc (.cells #[.int .i64 x.1, .int .i64 x.2] 71)) (.int .i64 y.1) [.int .i64 y.2] 71; rwa [World.size_alloc] at this
  have a3 : w0.cell? ⟨W.heap.size + 1, 1, none⟩ = some (.int .i64 y.2) := by rw [hw0]; have := cellnew1 (W.alloc (.cells #[.int .i64 x.1, .int .i64 x.2] 71)) (.int .i64 y.1) (.int .i64 y.2) [] 71; rwa [World.size_alloc] at this
  have HW0 := Lib.hid hw0; clear hw0
  refine wp_region_still_tail 10 (by kernel_rfl) (by kernel_rfl) ?_
  simp only [List.take_succ_cons, List.take_zero, List.drop_succ_cons, List.drop_zero]
  iterate 4 still_step
  still_call (HC1.out _)
  iterate 4 still_step
  still_call (HC2.out _)
  refine wpStill_nil ?_
  change wpList _ _ _ _ _ w0.drew
  go_wp2_with (go_at_call 112; refine (OrInt _ c1 c2 _ (by simp) (by simp)).mono ?_; rintro e w' ⟨rfl, rfl⟩)
  go_ret
  exact ⟨ret_int HF.out.symm, 1, #[_, _, _], by rw [HW0.out]; exact grow3 _ _ _ _⟩
theorem ltOf_cmpE (x y : Int × Int) : ltOf cmpE x y = lessE x y := by
  unfold ltOf cmpE orI cmpI lessE
  rw [Bool.eq_iff_iff]
  simp only [decide_eq_true_eq]
  by_cases a : x.1 < y.1 <;> by_cases b : x.1 = y.1 <;> by_cases c : x.2 < y.2 <;> by_cases d : x.2 = y.2 <;> simp [a, b, c, d] <;> omega
theorem swoE : SWO (ltOf cmpE) where
  irrefl x := by rw [ltOf_cmpE]; simp [lessE]
  trans x y z h1 h2 := by rw [ltOf_cmpE] at *; simp only [lessE, decide_eq_true_eq] at *; omega
  ntrans x y z h1 h2 := by rw [ltOf_cmpE] at *; simp only [lessE, decide_eq_false_iff_not] at *; omega
theorem totE (x y : Int × Int) (h1 : ltOf cmpE x y = false) (h2 : ltOf cmpE y x = false) : x = y := by
  rw [ltOf_cmpE] at *; simp only [lessE, decide_eq_false_iff_not] at *
  exact Prod.ext (by omega) (by omega)
/-- sorted by a function that says less -/
def sortBy {α : Type} (lt : α → α → Bool) (l : List α) : List α := l.mergeSort fun x y => !lt y x
theorem sortBy_len {α : Type} (lt : α → α → Bool) (l : List α) : (sortBy lt l).length = l.length := by unfold sortBy; exact List.length_mergeSort l
/-- a row of the call's own, its first cells laid anew, draws and blocks behind -/
theorem row_put (w : World) (g : Nat) (cur : Array Value) (e : TypeId) (m : Nat) (F : Array Value) (os : Array Obj) (hg : w.heap[g]? = some (.cells cur e (0, 0))) :
    (grow (putRow id (Sort.ahead w m) g 0 F) os).heap[g]? = some (.cells (putCells id 0 F cur) e (0, 0)) ∧ w.grownBy (grow (putRow id (Sort.ahead w m) g 0 F) os) (some g) := by
  have hlt : g < w.heap.size := (Array.getElem?_eq_some_iff.1 hg).1
  have hsz : (putRow id (Sort.ahead w m) g 0 F).heap.size = w.heap.size := by simp [putRow, mapBlock, Sort.ahead]
  refine ⟨?_, ⟨rfl, rfl, rfl, by simp [grow, putRow, mapBlock, Sort.ahead], fun k hk hne => ?_⟩⟩
  · rw [heap_grow_old _ _ (by rw [hsz]; exact hlt)]
    simp [putRow, mapBlock, Sort.ahead, Array.getElem?_modify, hg, onCells]
  · rw [heap_grow_old _ _ (by rw [hsz]; exact hk)]
    simp only [putRow, mapBlock, Sort.ahead, Array.getElem?_modify]
    rw [if_neg (by intro e; exact hne (by rw [e]))]
theorem putCells_take (F cur : Array Value) (h : F.size ≤ cur.size) : (putCells id 0 F cur).size = cur.size ∧ (putCells id 0 F cur).toList.take F.size = F.toList := by
  refine ⟨by simp [putCells], ?_⟩
  apply List.ext_getElem?
  intro i
  rw [List.getElem?_take]
  by_cases hi : i < F.size
  · rw [if_pos hi]
    have hic : i < cur.size := by omega
    simp only [putCells, Nat.zero_add, Nat.sub_zero, Array.getElem?_toList, Array.getElem?_mapIdx, Array.getElem?_eq_getElem hic, Option.map_some]
    rw [if_pos ⟨Nat.zero_le _, hi⟩, Array.getElem?_eq_getElem hi, getElem!_pos _ i hi]; rfl
  · rw [if_neg hi, List.getElem?_eq_none (by simp; omega)]
theorem flatK_encP (l : List (Int × Int)) : (flatK encP 2 l.toArray).toList = encE l := by
  apply List.ext_getElem?
  intro t
  by_cases ht : t < l.length * 2
  · have h1 : t < (flatK encP 2 l.toArray).size := by simp; omega
    have hk : t / 2 < l.length := by omega
    have hx : (flatK encP 2 l.toArray)[t]! = (encP (nth l (t / 2)))[t % 2]! := by
      rw [get_flatK encP 2 l.toArray t (by simpa using ht)]
      have : l.toArray[t / 2]! = nth l (t / 2) := by rw [getElem!_pos _ _ (by simpa using hk), nth_eq hk]; simp
      rw [this]
    have hy := encE_get l (t / 2) hk
    rw [Array.getElem?_toList, Array.getElem?_eq_getElem h1, ← getElem!_pos _ t h1, hx]
    have hl := encE_len l
    rw [List.getElem?_eq_getElem (by omega)]
    congr 1
    have hz : (encE l).getD t undef = (encE l)[t]'(by omega) := by rw [List.getD_eq_getElem?_getD, List.getElem?_eq_getElem (by omega)]; rfl
    rw [← hz]
    rcases Nat.mod_two_eq_zero_or_one t with h | h
    · have e : t = t / 2 * 2 := by omega
      rw [h]; conv => rhs; rw [e]
      rw [hy.1]; rfl
    · have e : t = t / 2 * 2 + 1 := by omega
      rw [h]; conv => rhs; rw [e]
      rw [hy.2]; rfl
  · rw [List.getElem?_eq_none (by simp; omega), List.getElem?_eq_none (by rw [encE_len]; omega)]
theorem own_put {w : World} {base : Nat} {e : TypeId} {size n c : Nat} {g : Nat} {xs ys : List Value} (ho : w.ownsRow base e size (.slice (some ⟨g, 0, none⟩) n c) n xs) (hl : ys.length = n * size) (m : Nat) (os : Array Obj) :
    (grow (putRow id (Sort.ahead w m) g 0 ys.toArray) os).ownsRow base e size (.slice (some ⟨g, 0, none⟩) n c) n ys ∧ w.grownBy (grow (putRow id (Sort.ahead w m) g 0 ys.toArray) os) (some g) := by
  rcases ho.2 with ⟨h1, _⟩ | ⟨g', cap, cur, h1, hb, hh, hn, hm, hs, ht⟩
  · cases h1
  · injection h1 with h1 _ h3
    injection h1 with h1
    injection h1 with h1
    subst h1; subst h3
    obtain ⟨r1, r2⟩ := row_put w g cur e m ys.toArray os hh
    have hle : ys.toArray.size ≤ cur.size := by simp only [List.size_toArray]; rw [hl, hs]; exact Nat.mul_le_mul_right _ hn
    obtain ⟨s1, s2⟩ := putCells_take ys.toArray cur hle
    refine ⟨⟨hl, .inr ⟨g, c, _, rfl, hb, r1, hn, hm, by rw [s1]; exact hs, ?_⟩⟩, r2⟩
    rw [← hl]; simpa using s2
theorem SortE (base : Nat) (q : Option Addr) (n c : Nat) (l : List (Int × Int)) (w : World) (ho : w.ownsRow base 71 2 (.slice q n c) n (encE l)) (hn : n ≤ 1000000) (hb : base ≤ w.heap.size) :
    Calls Try.prog 109 #[.slice q n c, .func (.func 111) #[] #[]] w fun e w' =>
      e = .returned (.tuple #[]) ∧ w'.ownsRow base 71 2 (.slice q n c) n (encE (sortBy lessE l)) ∧ w.grownBy w' (blkOf q) ∧ Below base w w' := by
  have hl : n = l.length := by have := ho.1; rw [encE_len] at this; omega
  by_cases h0 : n = 0
  · subst h0
    have hnil : l = [] := List.eq_nil_of_length_eq_zero hl.symm
    subst hnil
    refine (AnyF.slices_SortFunc_none { Try.sortE with } q c (.func (.func 111) #[] #[]) w).mono ?_
    rintro e w' ⟨he, rfl⟩
    exact ⟨he, by simpa [sortBy] using ho, World.grownBy.refl _ _, Below.refl _ _⟩
  · obtain ⟨g, hq, hg⟩ : ∃ g, q = some ⟨g, 0, none⟩ ∧ g < w.heap.size := by
      obtain ⟨p, c', h1, h2, _⟩ := own_form ho
      injection h1 with h1
      rcases h2 with h2 | ⟨g, h2, _, h3⟩
      · exfalso
        rcases ho.2 with ⟨_, h4⟩ | ⟨g', cap, cur, h4, _⟩
        · exact h0 h4
        · injection h4 with h4; rw [h1, h2] at h4; cases h4
      · exact ⟨g, by rw [h1, h2], h3⟩
    subst hq
    have eg : ∀ args w, (callFunc 111 args).run Try.prog w = .ok (.enter 111 args) w := enters_of Try.func111 (by kernel_rfl) rfl
    have hH : HoldsK encP 2 w g 0 l.toArray := by
      intro j hj
      have hj2 : j < n * 2 := by simp at hj; omega
      have r := Rd.of_own ho (by omega)
      have hc := r.cells j hj2
      rw [adr_some] at hc
      have hv : (flatK encP 2 l.toArray)[j]! = (encE l).getD j undef := by
        rw [getElem!_pos _ j hj, ← flatK_encP, List.getD_eq_getElem?_getD, Array.getElem?_toList, Array.getElem?_eq_getElem hj]; rfl
      refine ⟨by rw [hv]; exact hc, ?_⟩
      rcases ho.2 with ⟨h1, _⟩ | ⟨g', cap, cur, h1, _, hh, _⟩
      · cases h1
      · injection h1 with h1; injection h1 with h1; injection h1 with h1; subst h1
        simp [World.frozen?, hh]
    have hcon := AnyQ.slices_SortFunc_total Try.sortE 2 Try.isAgg71 Try.sizeOf71 encP (fun _ => rfl) (fun x v hv => by simp [encP] at hv; rcases hv with rfl | rfl <;> rfl) cmpE swoE 111 #[] g 0 c l.toArray w eg
      (fun m os dk hs x y => EdgesLit x y _) hH hg (by simp; omega) totE
    have hsz : l.toArray.size = n := by simp [hl]
    rw [hsz] at hcon
    refine hcon.mono ?_
    rintro e w' ⟨he, m, os, rfl⟩
    have e1 : (fun x y => !(ltOf cmpE) y x) = fun x y : Int × Int => !lessE y x := by funext x y; rw [ltOf_cmpE]
    have e2 : (flatK encP 2 (l.toArray.toList.mergeSort fun x y => !(ltOf cmpE) y x).toArray) = (encE (sortBy lessE l)).toArray := by
      apply Array.toList_inj.1
      rw [flatK_encP, e1]; rfl
    have hp := own_put ho (ys := encE (sortBy lessE l)) (by rw [encE_len, sortBy_len, hl]) m os
    have e3 : sortWorldK encP 2 w g 0 m (l.toArray.toList.mergeSort fun x y => !(ltOf cmpE) y x).toArray os = grow (putRow id (Sort.ahead w m) g 0 (encE (sortBy lessE l)).toArray) os := by
      unfold sortWorldK putRowK; rw [e2]
    rw [e3]
    refine ⟨he, hp.1, hp.2, Below.grown (Below.refl _ _) hp.2 hb (fun k hk => ?_)⟩
    exact (ho.lt k hk).1
end Go.Proofs.Ytcjkechemjdboaa
