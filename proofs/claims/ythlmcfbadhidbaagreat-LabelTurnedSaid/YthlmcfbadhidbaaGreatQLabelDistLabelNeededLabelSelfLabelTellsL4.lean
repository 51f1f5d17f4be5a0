/- Texts of this claim, one behind the other: PlainLb, Lb1, Hp1, Hp3, Hp2, KeepS, Lb2, Lb3, Or1, Lb4, KeepB, HpM, Hp4, Hp5, Hp6, Hp7, Lb5, Dst8c. -/
import Derived.Handy
import Derived.Deep.RegionHeld3
import Derived.Deep.DrawnRows
import Derived.WalkMore
import Derived.Deep.OwnRows
import Derived.Test.YthlmcfbadhidbaaGreatQLabelDistLabelNeededLabelSelfLabelTellsL3
/- The labels of places by hubs (chapter 12), in plain Lean. -/
namespace Go.Proofs.YthlmcfbadhidbaaGreat
open Go Go.RowKit
/-- does a place lie on a walk that is as short as may be? -/
def spB (nx : Nat → List Int) (n s u t : Nat) : Bool := decide (0 ≤ lev nx n s u ∧ 0 ≤ lev nx n u t ∧ lev nx n s u + lev nx n u t = lev nx n s t)
theorem spB_iff {nx : Nat → List Int} {n s u t : Nat} : spB nx n s u t = true ↔ 0 ≤ lev nx n s u ∧ 0 ≤ lev nx n u t ∧ lev nx n s u + lev nx n u t = lev nx n s t := decide_eq_true_iff
/-- none of the first k of the order does -/
def hubW (nx : Nat → List Int) (n : Nat) (L : List Int) (k s t : Nat) : Bool := decide (0 ≤ lev nx n s t) && (List.range k).all fun i => !spB nx n s (nth L i).toNat t
theorem hubW_iff {nx : Nat → List Int} {n : Nat} {L : List Int} {k s t : Nat} : hubW nx n L k s t = true ↔ 0 ≤ lev nx n s t ∧ ∀ i, i < k → spB nx n s (nth L i).toNat t = false := by
  unfold hubW
  rw [Bool.and_eq_true, decide_eq_true_eq, List.all_eq_true]
  simp only [List.mem_range, Bool.not_eq_true']
theorem hubW_no {nx : Nat → List Int} {n : Nat} {L : List Int} {k s t : Nat} (h : hubW nx n L k s t = false) (h0 : 0 ≤ lev nx n s t) : ∃ i, i < k ∧ spB nx n s (nth L i).toNat t = true := by
  apply Classical.byContradiction; intro hc
  have : hubW nx n L k s t = true := hubW_iff.2 ⟨h0, fun i hi => by
    cases e : spB nx n s (nth L i).toNat t with
    | false => rfl
    | true => exact absurd ⟨i, hi, e⟩ hc⟩
  rw [h] at this; cases this
/-- the row of a place: hubs that lead there -/
def labI (nx : Nat → List Int) (n : Nat) (L : List Int) (k v : Nat) : List (Int × Int) :=
  ((List.range k).filter fun i => hubW nx n L i (nth L i).toNat v).map fun i => (nth L i, lev nx n (nth L i).toNat v)
theorem labI_step (nx : Nat → List Int) (n : Nat) (L : List Int) (k v : Nat) : labI nx n L (k + 1) v = if hubW nx n L k (nth L k).toNat v = true then labI nx n L k v ++ [(nth L k, lev nx n (nth L k).toNat v)] else labI nx n L k v := by
  unfold labI
  rw [List.range_succ, List.filter_append, List.map_append]
  by_cases h : hubW nx n L k (nth L k).toNat v = true
  · rw [if_pos h]; simp [h]
  · rw [if_neg h]; simp [h]
theorem labI_mem {nx : Nat → List Int} {n : Nat} {L : List Int} {k v : Nat} {x : Int × Int} : x ∈ labI nx n L k v ↔ ∃ i, i < k ∧ hubW nx n L i (nth L i).toNat v = true ∧ x = (nth L i, lev nx n (nth L i).toNat v) := by
  unfold labI
  rw [List.mem_map]
  constructor
  · rintro ⟨i, h, rfl⟩
    rw [List.mem_filter, List.mem_range] at h
    exact ⟨i, h.1, h.2, rfl⟩
  · rintro ⟨i, h1, h2, rfl⟩
    exact ⟨i, List.mem_filter.2 ⟨List.mem_range.2 h1, h2⟩, rfl⟩
def labT (nx : Nat → List Int) (n : Nat) (L : List Int) (k : Nat) : SrT := (List.range n).map fun v => labI nx n L k v
theorem labT_len (nx : Nat → List Int) (n : Nat) (L : List Int) (k : Nat) : (labT nx n L k).length = n := by simp [labT]
theorem labT_nth {nx : Nat → List Int} {n : Nat} {L : List Int} {k v : Nat} (hv : v < n) : nth (labT nx n L k) v = labI nx n L k v := by
  rw [nth_eq (by rw [labT_len]; exact hv)]; simp [labT]
theorem ord_lt {L : List Int} {n : Nat} (hL : OrdP L n) {i : Nat} (hi : i < n) : (nth L i).toNat < n := by have := ord_at hL hi; omega
theorem ord_int {L : List Int} {n : Nat} (hL : OrdP L n) {i : Nat} (hi : i < n) : ((nth L i).toNat : Int) = nth L i := by have := ord_at hL hi; omega
section
variable {nx nb : Nat → List Int} {n : Nat} {L : List Int} (hr : Rev nx nb n) (hL : OrdP L n)
include hr
theorem sp_rev {s u t : Nat} (hs : s < n) (hu : u < n) (ht : t < n) : spB nx n s u t = spB nb n t u s := by
  unfold spB
  rw [lev_rev hr hs hu, lev_rev hr hu ht, lev_rev hr hs ht]
  apply decide_eq_decide.2
  constructor
  · rintro ⟨h1, h2, h3⟩; exact ⟨h2, h1, by omega⟩
  · rintro ⟨h1, h2, h3⟩; exact ⟨h2, h1, by omega⟩
include hL
theorem hub_rev {k s t : Nat} (hk : k ≤ n) (hs : s < n) (ht : t < n) : hubW nx n L k s t = hubW nb n L k t s := by
  apply Bool.eq_iff_iff.2
  rw [hubW_iff, hubW_iff, lev_rev hr hs ht]
  constructor
  · rintro ⟨h1, h2⟩; exact ⟨h1, fun i hi => by rw [← sp_rev hr hs (ord_lt hL (by omega)) ht]; exact h2 i hi⟩
  · rintro ⟨h1, h2⟩; exact ⟨h1, fun i hi => by rw [sp_rev hr hs (ord_lt hL (by omega)) ht]; exact h2 i hi⟩
/-- what stands in the row of a place from which walks lead -/
theorem labO_mem {k v : Nat} (hk : k ≤ n) (hv : v < n) {x : Int × Int} : x ∈ labI nb n L k v ↔ ∃ i, i < k ∧ hubW nx n L i v (nth L i).toNat = true ∧ x = (nth L i, lev nx n v (nth L i).toNat) := by
  rw [labI_mem]
  constructor
  · rintro ⟨i, h1, h2, rfl⟩
    refine ⟨i, h1, ?_, ?_⟩
    · rw [hub_rev hr hL (by omega) hv (ord_lt hL (by omega))]; exact h2
    · rw [lev_rev hr hv (ord_lt hL (by omega))]
  · rintro ⟨i, h1, h2, rfl⟩
    refine ⟨i, h1, ?_, ?_⟩
    · rw [← hub_rev hr hL (by omega) hv (ord_lt hL (by omega))]; exact h2
    · rw [← lev_rev hr hv (ord_lt hL (by omega))]
/-- each sum over a hub that both have is a walk's -/
theorem both_walk {k s t : Nat} (hk : k ≤ n) (hs : s < n) (ht : t < n) {x : Int} (h : Both (labI nb n L k s) (labI nx n L k t) x) :
    ∃ i, i < k ∧ hubW nx n L i s (nth L i).toNat = true ∧ hubW nx n L i (nth L i).toNat t = true ∧ x = lev nx n s (nth L i).toNat + lev nx n (nth L i).toNat t ∧ 0 ≤ lev nx n s t ∧ lev nx n s t ≤ x := by
  obtain ⟨a, ha, b, hb, e, rfl⟩ := h
  obtain ⟨i, h1, h2, rfl⟩ := (labO_mem hr hL hk hs).1 ha
  obtain ⟨j, h3, h4, rfl⟩ := labI_mem.1 hb
  simp only at e
  obtain rfl : i = j := ord_inj hL (by omega) (by omega) e
  have t1 := (hubW_iff.1 h2).1
  have t2 := (hubW_iff.1 h4).1
  have t3 := lev_tri hr hs (ord_lt hL (show i < n by omega)) ht t1 t2
  exact ⟨i, h1, h2, h4, rfl, t3.1, t3.2⟩
/-- what lies on a shortest walk is told by a hub that both have -/
theorem both_of {k s t : Nat} (hk : k ≤ n) (hs : s < n) (ht : t < n) (h : ∃ i, i < k ∧ spB nx n s (nth L i).toNat t = true) : Both (labI nb n L k s) (labI nx n L k t) (lev nx n s t) := by
  obtain ⟨i0, hi0, h0⟩ := h
  obtain ⟨i, hle, h1, h2⟩ := least_nat (p := fun i => spB nx n s (nth L i).toNat t) i0 h0
  obtain ⟨a1, a2, a3⟩ := spB_iff.1 h1
  have hu := ord_lt hL (show i < n by omega)
  refine ⟨_, (labO_mem hr hL hk hs).2 ⟨i, by omega, hubW_iff.2 ⟨a1, fun j hj => ?_⟩, rfl⟩, _, labI_mem.2 ⟨i, by omega, hubW_iff.2 ⟨a2, fun j hj => ?_⟩, rfl⟩, rfl, a3.symm⟩
  · cases e : spB nx n s (nth L j).toNat (nth L i).toNat with
    | false => rfl
    | true =>
      obtain ⟨b1, b2, b3⟩ := spB_iff.1 e
      have hw := ord_lt hL (show j < n by omega)
      have t1 := lev_tri hr hw hu ht b2 a2
      have t2 := lev_tri hr hs hw ht b1 t1.1
      have := h2 j hj
      rw [show spB nx n s (nth L j).toNat t = true from spB_iff.2 ⟨b1, t1.1, by omega⟩] at this
      cases this
  · cases e : spB nx n (nth L i).toNat (nth L j).toNat t with
    | false => rfl
    | true =>
      obtain ⟨b1, b2, b3⟩ := spB_iff.1 e
      have hw := ord_lt hL (show j < n by omega)
      have t1 := lev_tri hr hs hu hw a1 b1
      have t2 := lev_tri hr hs hw ht t1.1 b2
      have := h2 j hj
      rw [show spB nx n s (nth L j).toNat t = true from spB_iff.2 ⟨t1.1, b2, by omega⟩] at this
      cases this
/-- **what the labels tell** -/
theorem label_tells {s t : Nat} (hs : s < n) (ht : t < n) : leastV (labI nb n L n s) (labI nx n L n t) = if 0 ≤ lev nx n s t then (lev nx n s t, true) else (0, false) := by
  have h := leastV_ok (labI nb n L n s) (labI nx n L n t)
  by_cases h0 : 0 ≤ lev nx n s t
  · rw [if_pos h0]
    refine h.uniq (D := fun x => Both (labI nb n L n s) (labI nx n L n t) x) ⟨fun k => by simp at k, fun _ => ⟨?_, fun x hx => ?_⟩⟩ fun _ => Iff.rfl
    · refine both_of hr hL (Nat.le_refl _) hs ht ?_
      obtain ⟨i, hi, e⟩ := ord_find hL ht
      refine ⟨i, hi, spB_iff.2 ?_⟩
      rw [e, Int.toNat_natCast]
      have := ((lev_ok nx n t ht).zero t ht).2 rfl
      omega
    · obtain ⟨i, _, _, _, _, _, h1⟩ := both_walk hr hL (Nat.le_refl _) hs ht hx
      exact h1
  · rw [if_neg h0]
    refine h.uniq (D := fun x => Both (labI nb n L n s) (labI nx n L n t) x) ⟨fun _ => ⟨rfl, fun x hx => ?_⟩, fun k => by simp at k⟩ fun _ => Iff.rfl
    obtain ⟨i, _, _, _, _, h1, _⟩ := both_walk hr hL (Nat.le_refl _) hs ht hx
    exact h0 h1
/-- **a hub's search is as it should be** -/
theorem label_search (hin : ∀ v, v < n → ∀ x ∈ nx v, ∃ w : Nat, x = w ∧ w < n) {k : Nat} (hk : k < n) :
    SrW nx (fun row d => nearB (leastV (labI nb n L k (nth L k).toNat) row) d) n (nth L k).toNat (labT nx n L k) (fun v => hubW nx n L k (nth L k).toNat v) (lev nx n (nth L k).toNat) := by
  have hh := ord_lt hL hk
  have lo := lev_ok nx n (nth L k).toNat hh
  refine ⟨hh, labT_len _ _ _ _, lo, hin, fun v hv hg => ?_, fun v d hv hg h0 hd => ?_, fun v hv hg => (hubW_iff.1 hg).1, fun v hv hg h0 => ?_⟩
  · show nearB (leastV _ (nth (labT nx n L k) v)) _ = false
    rw [labT_nth hv]
    refine nearB_no (leastV_ok _ _) fun x hx => ?_
    obtain ⟨i, h1, h2, h3, rfl, h5, h6⟩ := both_walk hr hL (by omega) hh hv hx
    have := (hubW_iff.1 hg).2 i h1
    have a1 := (hubW_iff.1 h2).1
    have a2 := (hubW_iff.1 h3).1
    rcases Int.lt_or_eq_of_le h6 with h | h
    · exact h
    · rw [show spB nx n (nth L k).toNat (nth L i).toNat v = true from spB_iff.2 ⟨a1, a2, h.symm⟩] at this; cases this
  · show nearB (leastV _ (nth (labT nx n L k) v)) _ = true
    rw [labT_nth hv]
    exact nearB_yes (leastV_ok _ _) (both_of hr hL (by omega) hh hv (hubW_no hg h0)) hd
  · obtain ⟨u, hu, h1, h2⟩ := lo.pred v hv h0
    obtain ⟨g1, g2⟩ := hubW_iff.1 hg
    refine ⟨u, hu, hubW_iff.2 ⟨by omega, fun i hi => ?_⟩, h1, h2⟩
    cases e : spB nx n (nth L k).toNat (nth L i).toNat u with
    | false => rfl
    | true =>
      obtain ⟨b1, b2, b3⟩ := spB_iff.1 e
      have hw := ord_lt hL (show i < n by omega)
      have t1 := (lev_ok nx n (nth L i).toNat hw).next u v hu hv h2 b2
      have t2 := lev_tri hr hh hw hv b1 t1.1
      have := g2 i hi
      rw [show spB nx n (nth L k).toNat (nth L i).toNat v = true from spB_iff.2 ⟨b1, t1.1, by omega⟩] at this
      cases this
omit hr in
theorem label_step {k : Nat} (hk : k < n) : ((List.range n).map fun v => toldW (nth L k).toNat (labT nx n L k) (fun v => hubW nx n L k (nth L k).toNat v) (lev nx n (nth L k).toNat) v) = labT nx n L (k + 1) := by
  unfold labT
  refine List.map_congr_left fun v hv => ?_
  have hv' := List.mem_range.1 hv
  unfold toldW
  have := labT_nth (nx := nx) (L := L) (k := k) hv'
  unfold labT at this
  rw [this, labI_step, ord_int hL hk]
/-- no hit can be left out -/
theorem label_needed {v at' : Nat} (hv : v < n) {x : Int × Int} (hx : x ∈ labI nx n L n v) {y : Int} (hy : Both (labI nb n L n x.1.toNat) ((labI nx n L n v).eraseIdx at') y) (hat : at' < (labI nx n L n v).length) (hxat : nth (labI nx n L n v) at' = x) : lev nx n x.1.toNat v < y := by
  obtain ⟨j, hj, h1, rfl⟩ := labI_mem.1 hx
  simp only at *
  have hu := ord_lt hL hj
  have hmem : ∀ z, z ∈ (labI nx n L n v).eraseIdx at' → z ∈ labI nx n L n v := fun z hz => List.mem_of_mem_eraseIdx hz
  have hy' : Both (labI nb n L n (nth L j).toNat) (labI nx n L n v) y := by
    obtain ⟨a, ha, b, hb, e⟩ := hy
    exact ⟨a, ha, b, hmem b hb, e⟩
  obtain ⟨a, ha, b, hb, e, rfl⟩ := hy
  obtain ⟨i, hi, g1, rfl⟩ := (labO_mem hr hL (Nat.le_refl _) hu).1 ha
  obtain ⟨i', hi', g2, rfl⟩ := labI_mem.1 (hmem b hb)
  simp only at e
  obtain rfl : i = i' := ord_inj hL hi hi' e
  have a1 := (hubW_iff.1 g1).1
  have a2 := (hubW_iff.1 g2).1
  have t := lev_tri hr hu (ord_lt hL hi) hv a1 a2
  simp only
  rcases Int.lt_or_eq_of_le t.2 with h | h
  · exact h
  · exfalso
    have hsp : spB nx n (nth L j).toNat (nth L i).toNat v = true := spB_iff.2 ⟨a1, a2, h.symm⟩
    rcases Nat.lt_trichotomy i j with hij | rfl | hij
    · have := (hubW_iff.1 h1).2 i hij; rw [hsp] at this; cases this
    · -- the hit itself is gone
      have hnd : (labI nx n L n v).Nodup := by
        unfold labI
        refine List.Pairwise.map _ (fun a b (h : a ≠ b ∧ a < n ∧ b < n) e => h.1 (ord_inj hL h.2.1 h.2.2 (congrArg Prod.fst e))) (R := fun a b => a ≠ b ∧ a < n ∧ b < n) ?_
        have h1 : ((List.range n).filter fun i => hubW nx n L i (nth L i).toNat v).Nodup := List.nodup_range.filter _
        rw [List.nodup_iff_pairwise_ne] at h1
        exact h1.imp_of_mem fun {a b} ha hb hne => ⟨hne, by have := (List.mem_filter.1 ha).1; exact List.mem_range.1 this, by have := (List.mem_filter.1 hb).1; exact List.mem_range.1 this⟩
      rw [List.mem_eraseIdx_iff_getElem] at hb
      obtain ⟨m, hm, hne, em⟩ := hb
      rw [nth_eq hat] at hxat
      rw [← hxat] at em
      exact hne ((List.getElem_inj hnd).1 em)
    · have := (hubW_iff.1 g1).2 j hij
      have hz := ((lev_ok nx n (nth L j).toNat hu).zero _ hu).2 rfl
      rw [show spB nx n (nth L j).toNat (nth L j).toNat (nth L i).toNat = true from spB_iff.2 ⟨by omega, a1, by omega⟩] at this
      cases this
omit hr in
/-- each place is a hub of its own -/
theorem hub_self {j : Nat} (hj : j < n) : hubW nx n L j (nth L j).toNat (nth L j).toNat = true := by
  have hu := ord_lt hL hj
  have hz := ((lev_ok nx n (nth L j).toNat hu).zero _ hu).2 rfl
  refine hubW_iff.2 ⟨by omega, fun i hi => ?_⟩
  cases e : spB nx n (nth L j).toNat (nth L i).toNat (nth L j).toNat with
  | false => rfl
  | true =>
    obtain ⟨b1, b2, b3⟩ := spB_iff.1 e
    have hw := ord_lt hL (show i < n by omega)
    have h1 := ((lev_ok nx n (nth L j).toNat hu).zero _ hw).1 (by omega)
    have := ord_inj hL (show i < n by omega) hj (by have := ord_int hL (show i < n by omega); have := ord_int hL hj; omega)
    omega
end
end Go.Proofs.YthlmcfbadhidbaaGreat
/- The program's labels (chapter 12): the least sum; a place's next ones. -/
namespace Go.Proofs.YthlmcfbadhidbaaGreat
open Go Go.RowKit
/-- hits whose D is small -/
def SmH (X : List (Int × Int)) : Prop := ∀ x ∈ X, 0 ≤ x.2 ∧ x.2 ≤ 1000
set_option maxRecDepth 100000 in
set_option maxHeartbeats 4000000 in
theorem LeastG (p : Option Addr) (n c : Nat) (X : List (Int × Int)) (q : Option Addr) (m d : Nat) (Y : List (Int × Int)) (w : World) (hX : Rd w 2 p n (encE X)) (hY : Rd w 2 q m (encE Y)) (bX : SmH X) (bY : SmH Y) :
    Calls Tryz.prog 53 #[.slice p n c, .slice q m d] w fun e w' => e = .returned (.tuple #[.int .i64 (leastV X Y).1, .bool (leastV X Y).2]) ∧ Ext w w' := by
  have p1 := hX.ptr
  have p2 := hY.ptr
  have n1 := hX.small
  have n2 := hY.small
  have L1 := Lib.hid hX.nE
  have L2 := Lib.hid hY.nE
  have HBX := Lib.hid bX
  have HBY := Lib.hid bY
  clear bX bY
  have HX := Lib.hid hX; clear hX
  have HY := Lib.hid hY; clear hY
  go_enter Tryz.func53, Tryz.ntmps53
  go_wp2
  go_loopw [6, 7, 9, 11, 14] (fun v6 v7 _ _ i wr => ∃ k : Nat, k ≤ n ∧ i = .int .i64 k ∧ v6 = .int .i64 (leastV (X.take k) Y).1 ∧ v7 = .bool (leastV (X.take k) Y).2 ∧ Ext w wr) (fun _ _ _ _ i _ => n - (intOf i).toNat)
  case atStart => exact ⟨0, Nat.zero_le _, rfl, rfl, rfl, Below.refl _ _⟩
  case round =>
    obtain ⟨k, hk, rfl, rfl, rfl, hE⟩ := hrel
    by_cases hlt : k < n
    · have hkX : k < X.length := by rw [← L1.out]; exact hlt
      have g1 := hE.cell (HX.out.cE hlt)
      have g2 := hE.cell (HX.out.cE2 hlt)
      have HST := Lib.hid (leastV_snoc (X.take k) Y (nth X k))
      rw [← take_succ_nth X k hkX] at HST
      have HXB := Lib.hid (HBX.out _ (nth_mem hkX))
      obtain ⟨acc, hacc⟩ : ∃ acc, leastV (X.take k) Y = acc := ⟨_, rfl⟩
      rw [hacc] at HST ⊢
      obtain ⟨x, hx⟩ : ∃ x, nth X k = x := ⟨_, rfl⟩
      rw [hx] at HST HXB g1 g2
      clear hacc hx
      have HN : Hid (leastV (X.take (k + 1)) Y = leastR acc x Y) := HST.out
      have S1 := Lib.hid (((Sep.start w).call hE).al #[.int .i64 x.1, .int .i64 x.2] 54 wr.heap.size rfl)
      have HE := Lib.hid hE; clear hE
      go_wp2
      go_loopw [6, 7, 11, 20] (fun v6 v7 _ i wx => ∃ j : Nat, j ≤ m ∧ i = .int .i64 j ∧ v6 = .int .i64 (leastR acc x (Y.take j)).1 ∧ v7 = .bool (leastR acc x (Y.take j)).2 ∧ Sep w wx [.blk wr.heap.size 54 #[.int .i64 x.1, .int .i64 x.2]]) (fun _ _ _ i _ => m - (intOf i).toNat)
      case atStart => exact ⟨0, Nat.zero_le _, rfl, rfl, rfl, S1.out⟩
      case round =>
        clear S1 HE
        obtain ⟨j, hj, rfl, rfl, rfl, S⟩ := hrel
        have b0 := (S.blk 0 rfl).cell 0
        have b1 := (S.blk 0 rfl).cell 1
        have bz := (S.blk 0 rfl).lt
        by_cases hlj : j < m
        · have hjY : j < Y.length := by rw [← L2.out]; exact hlj
          have g3 := S.ext.cell (HY.out.cE hlj)
          have g4 := S.ext.cell (HY.out.cE2 hlj)
          have hst := leastR_snoc acc x (Y.take j) (nth Y j)
          rw [← take_succ_nth Y j hjY] at hst
          have hyb := HBY.out _ (nth_mem hjY)
          have hxb := HXB.out
          generalize leastR acc x (Y.take j) = r at *
          generalize nth Y j = y at *
          obtain ⟨rn, rk⟩ := r
          obtain ⟨x1, x2⟩ := x
          obtain ⟨y1, y2⟩ := y
          unfold leastS at hst
          simp only at *
          have S2 := Lib.hid (S.junk (.cells #[.int .i64 y1, .int .i64 y2] 54))
          clear S
          by_cases e1 : x1 = y1
          · have f1 : (x1 == y1) = true := by simpa using e1
            cases rk with
            | false =>
              rw [if_pos ⟨e1, .inl rfl⟩] at hst
              have HS := Lib.hid hst
              clear hst
              subst e1
              go_wp2
              go_roundw
              case rel => exact ⟨j + 1, by omega, by go_num, by rw [HS.out], by rw [HS.out], S2.out⟩
              case measure => simp [intOf]; omega
            | true =>
              by_cases e2 : x2 + y2 < rn
              · have f2 : decide (x2 + y2 < rn) = true := by simpa using e2
                rw [if_pos ⟨e1, .inr e2⟩] at hst
                have HS := Lib.hid hst
                clear hst e2
                subst e1
                go_wp2
                go_roundw
                case rel => exact ⟨j + 1, by omega, by go_num, by rw [HS.out], by rw [HS.out], S2.out⟩
                case measure => simp [intOf]; omega
              · have f2 : decide (x2 + y2 < rn) = false := by simpa using e2
                rw [if_neg (by rintro ⟨_, h | h⟩; · cases h
                               · exact e2 h)] at hst
                have HS := Lib.hid hst
                clear hst e2
                subst e1
                go_wp2
                go_roundw
                case rel => exact ⟨j + 1, by omega, by go_num, by rw [HS.out], by rw [HS.out], S2.out⟩
                case measure => simp [intOf]; omega
          · have f1 : (x1 == y1) = false := by simpa using e1
            rw [if_neg fun h => e1 h.1] at hst
            have HS := Lib.hid hst
            clear hst e1
            go_wp2
            go_roundw
            case rel => exact ⟨j + 1, by omega, by go_num, by rw [HS.out], by rw [HS.out], S2.out⟩
            case measure => simp [intOf]; omega
        · obtain rfl : j = m := by omega
          rw [List.take_of_length_le (by rw [← L2.out]; exact Nat.le_refl _), ← HN.out]
          have HE := Lib.hid S.ext
          clear S b0 b1 bz
          go_wp2
          go_roundw
          case rel => exact ⟨k + 1, by omega, by go_num, rfl, rfl, HE.out⟩
          case measure => simp [intOf]; omega
    · obtain rfl : k = n := by omega
      rw [List.take_of_length_le (by rw [← L1.out]; exact Nat.le_refl _)]
      have HE := Lib.hid hE; clear hE
      go_wp2
      go_ret2
      exact ⟨rfl, HE.out⟩
set_option maxRecDepth 100000 in
set_option maxHeartbeats 2000000 in
theorem next1G (po : Option Addr) (no co : Nat) (O : List Int) (pt : Option Addr) (nt ct : Nat) (T : List Int) (pr : Option Addr) (nr cr : Nat) (R : List Int) (pv : Option Addr) (nv cv : Nat) (V : List Int) (gr k : Nat) (w : World) (hO : Rd w 1 po no (encI O)) (hT : Rd w 1 pt nt (encI T)) (hok : OffOk O T) (hct : nt ≤ ct) (hk1 : k + 1 < O.length) (hB : Blk w gr 24 #[.slice po no co, .slice pt nt ct, .slice pr nr cr, .slice pv nv cv]) :
    Calls Tryz.prog 47 #[.int .i64 k, .pointer (some ⟨gr, 0, none⟩)] w fun e w' => e = .returned (.slice (cutp pt ct (nth O k).toNat 1) (rowL O T k).length (ct - (nth O k).toNat)) ∧ Ext w w' := by
  have _u := (O, T, R, V)
  clear _u
  have na1 := hO.small
  have l1 := hO.nI
  have l2 := hT.nI
  have pA := hO.ptr
  have q1 := hok.lo k (by omega)
  have q2 := hok.le k hk1
  have q3 := hok.hi (k + 1) hk1
  have hrl := rowL_len hok hk1
  have RL0 := hT.rowOf hok hct hk1
  have g1 := hO.cI (k := k) (by omega)
  have g2 := hO.cI (k := k + 1) (by omega)
  have b0 := hB.cell 0
  have b1 := hB.cell 1
  have b2 := hB.cell 2
  have b3 := hB.cell 3
  have bz := hB.lt
  obtain ⟨a, ha⟩ : ∃ a : Nat, nth O k = (a : Int) := ⟨(nth O k).toNat, by omega⟩
  obtain ⟨c, hc⟩ : ∃ c : Nat, nth O (k + 1) = (c : Int) := ⟨(nth O (k + 1)).toNat, by omega⟩
  rw [ha] at q1 q2 hrl RL0 g1
  rw [hc] at q2 q3 hrl RL0 g2
  simp only [Int.toNat_natCast] at hrl RL0
  have hq3 : (c:Int) ≤ ct := by omega
  have d1 : (0:Int) ≤ k := by omega
  have d2 : (k:Int) < no := by omega
  have d3 : (0:Int) ≤ (k:Int) + 1 := by omega
  have d4 : (k:Int) + 1 < no := by omega
  have RL := Lib.hid RL0
  rw [hrl, ha, Int.toNat_natCast]
  clear hO hT hok ha hc hrl RL0 l1 l2 q3 hk1 hB
  go_enter Tryz.func47, Tryz.ntmps47
  go_wp2
  have y0 := fun x : ExtOf w => x.ext.cell b0
  have y1 := fun x : ExtOf w => x.ext.cell b1
  have y2 := fun x : ExtOf w => x.ext.cell b2
  have y3 := fun x : ExtOf w => x.ext.cell b3
  have x1 := fun x : ExtOf w => x.ext.cell g1
  have x2 := fun x : ExtOf w => x.ext.cell g2
  refine wp_region_ext (by kernel_rfl) (by kernel_rfl) ?_
  repeat (go_big_quiet_step ((fail)))
  refine wpQuiet_nil ?_
  rintro w1 ⟨⟨_, hb1⟩, rfl⟩
  go_wp2
  go_ret
  exact ⟨rfl, hb1⟩
set_option maxRecDepth 100000 in
set_option maxHeartbeats 2000000 in
theorem next3G (po : Option Addr) (no co : Nat) (O : List Int) (pt : Option Addr) (nt ct : Nat) (T : List Int) (pr : Option Addr) (nr cr : Nat) (R : List Int) (pv : Option Addr) (nv cv : Nat) (V : List Int) (gr k : Nat) (w : World) (hO : Rd w 1 pr nr (encI R)) (hT : Rd w 1 pv nv (encI V)) (hok : OffOk R V) (hct : nv ≤ cv) (hk1 : k + 1 < R.length) (hB : Blk w gr 24 #[.slice po no co, .slice pt nt ct, .slice pr nr cr, .slice pv nv cv]) :
    Calls Tryz.prog 49 #[.int .i64 k, .pointer (some ⟨gr, 0, none⟩)] w fun e w' => e = .returned (.slice (cutp pv cv (nth R k).toNat 1) (rowL R V k).length (cv - (nth R k).toNat)) ∧ Ext w w' := by
  have _u := (O, T, R, V)
  clear _u
  have na1 := hO.small
  have l1 := hO.nI
  have l2 := hT.nI
  have pA := hO.ptr
  have q1 := hok.lo k (by omega)
  have q2 := hok.le k hk1
  have q3 := hok.hi (k + 1) hk1
  have hrl := rowL_len hok hk1
  have RL0 := hT.rowOf hok hct hk1
  have g1 := hO.cI (k := k) (by omega)
  have g2 := hO.cI (k := k + 1) (by omega)
  have b0 := hB.cell 0
  have b1 := hB.cell 1
  have b2 := hB.cell 2
  have b3 := hB.cell 3
  have bz := hB.lt
  obtain ⟨a, ha⟩ : ∃ a : Nat, nth R k = (a : Int) := ⟨(nth R k).toNat, by omega⟩
  obtain ⟨c, hc⟩ : ∃ c : Nat, nth R (k + 1) = (c : Int) := ⟨(nth R (k + 1)).toNat, by omega⟩
  rw [ha] at q1 q2 hrl RL0 g1
  rw [hc] at q2 q3 hrl RL0 g2
  simp only [Int.toNat_natCast] at hrl RL0
  have hq3 : (c:Int) ≤ cv := by omega
  have d1 : (0:Int) ≤ k := by omega
  have d2 : (k:Int) < nr := by omega
  have d3 : (0:Int) ≤ (k:Int) + 1 := by omega
  have d4 : (k:Int) + 1 < nr := by omega
  have RL := Lib.hid RL0
  rw [hrl, ha, Int.toNat_natCast]
  clear hO hT hok ha hc hrl RL0 l1 l2 q3 hk1 hB
  go_enter Tryz.func49, Tryz.ntmps49
  go_wp2
  have y0 := fun x : ExtOf w => x.ext.cell b0
  have y1 := fun x : ExtOf w => x.ext.cell b1
  have y2 := fun x : ExtOf w => x.ext.cell b2
  have y3 := fun x : ExtOf w => x.ext.cell b3
  have x1 := fun x : ExtOf w => x.ext.cell g1
  have x2 := fun x : ExtOf w => x.ext.cell g2
  refine wp_region_ext (by kernel_rfl) (by kernel_rfl) ?_
  repeat (go_big_quiet_step ((fail)))
  refine wpQuiet_nil ?_
  rintro w1 ⟨⟨_, hb1⟩, rfl⟩
  go_wp2
  go_ret
  exact ⟨rfl, hb1⟩
theorem next1Gr (po : Option Addr) (no co : Nat) (O : List Int) (pt : Option Addr) (nt ct : Nat) (T : List Int) (pr : Option Addr) (nr cr : Nat) (R : List Int) (pv : Option Addr) (nv cv : Nat) (V : List Int) (gr k : Nat) (w : World) (hO : Rd w 1 po no (encI O)) (hT : Rd w 1 pt nt (encI T)) (hok : OffOk O T) (hct : nt ≤ ct) (hk1 : k + 1 < O.length) (hB : Blk w gr 24 #[.slice po no co, .slice pt nt ct, .slice pr nr cr, .slice pv nv cv]) :
    ∃ q c, Rd w 1 q (rowL O T k).length (encI (rowL O T k)) ∧ ∀ W, Ext w W → Calls Tryz.prog 47 #[.int .i64 k, .pointer (some ⟨gr, 0, none⟩)] W fun e w' => e = .returned (.slice q (rowL O T k).length c) ∧ Ext W w' := by
  refine ⟨_, _, ?_, fun W h => next1G po no co O pt nt ct T pr nr cr R pv nv cv V gr k W (hO.ext h) (hT.ext h) hok hct hk1 (hB.ext h)⟩
  have := hT.rowOf hok hct hk1
  rw [← rowL_len hok hk1] at this
  exact this
theorem next3Gr (po : Option Addr) (no co : Nat) (O : List Int) (pt : Option Addr) (nt ct : Nat) (T : List Int) (pr : Option Addr) (nr cr : Nat) (R : List Int) (pv : Option Addr) (nv cv : Nat) (V : List Int) (gr k : Nat) (w : World) (hO : Rd w 1 pr nr (encI R)) (hT : Rd w 1 pv nv (encI V)) (hok : OffOk R V) (hct : nv ≤ cv) (hk1 : k + 1 < R.length) (hB : Blk w gr 24 #[.slice po no co, .slice pt nt ct, .slice pr nr cr, .slice pv nv cv]) :
    ∃ q c, Rd w 1 q (rowL R V k).length (encI (rowL R V k)) ∧ ∀ W, Ext w W → Calls Tryz.prog 49 #[.int .i64 k, .pointer (some ⟨gr, 0, none⟩)] W fun e w' => e = .returned (.slice q (rowL R V k).length c) ∧ Ext W w' := by
  refine ⟨_, _, ?_, fun W h => next3G po no co O pt nt ct T pr nr cr R pv nv cv V gr k W (hO.ext h) (hT.ext h) hok hct hk1 (hB.ext h)⟩
  have := hT.rowOf hok hct hk1
  rw [← rowL_len hok hk1] at this
  exact this
end Go.Proofs.YthlmcfbadhidbaaGreat
/- The program's heap of places (chapter 11): its methods. -/
namespace Go.Proofs.YthlmcfbadhidbaaGreat
open Go Go.RowKit
theorem HLen (q : Option Addr) (n c : Nat) (w : World) (hn : n ≤ 9223372036854775807) : Calls Tryz.prog 166 #[.slice q n c] w fun e w' => e = .returned (.int .i64 n) ∧ w' = w := by
  have _u := hn
  clear _u
  go_enter Tryz.func166, Tryz.ntmps166
  go_wp2
  go_ret
  exact ⟨rfl, rfl⟩

set_option maxRecDepth 100000 in
set_option maxHeartbeats 4000000 in
theorem HLess (q : Option Addr) (n c : Nat) (X : List (Int × Int)) (i k : Nat) (w : World) (hl : Rd w 2 q n (encE X)) (hi : i < n) (hk : k < n) :
    Calls Tryz.prog 167 #[.slice q n c, .int .i64 i, .int .i64 k] w fun e w' => e = .returned (.bool (ltW (nth X i) (nth X k))) ∧ Ext w w' := by
  have p1 := hl.ptr
  have n2 := hl.small
  have g1 := hl.cE2 hi
  have g2 := hl.cE2 hk
  have g3 := hl.cE hi
  have g4 := hl.cE hk
  have d1 : (0:Int) ≤ i := by omega
  have d2 : (i:Int) < n := by omega
  have d3 : (0:Int) ≤ k := by omega
  have d4 : (k:Int) < n := by omega
  unfold ltW
  generalize nth X i = a at *
  generalize nth X k = b at *
  clear hl hi hk
  have S0 := Lib.hid (Sep.start w)
  by_cases h1 : b.2 < a.2
  · have e1 : decide (b.2 < a.2) = true := by simpa using h1
    rw [e1, Bool.true_or]
    go_enter Tryz.func167, Tryz.ntmps167
    go_wp2
    have u1 := fun x : ExtOf w => x.ext.cell g1
    have u2 := fun x : ExtOf w => x.ext.cell g2
    have u3 := fun x : ExtOf w => x.ext.cell g3
    have u4 := fun x : ExtOf w => x.ext.cell g4
    refine wp_region_ext (by kernel_rfl) (by kernel_rfl) ?_
    repeat (go_big_quiet_step ((fail)))
    refine wpQuiet_nil ?_
    rintro w9 ⟨⟨_, hb9⟩, rfl⟩
    go_wp2
    go_ret
    exact ⟨rfl, hb9⟩
  · have e1 : decide (b.2 < a.2) = false := by simpa using h1
    rw [e1, Bool.false_or]
    by_cases h2 : a.2 = b.2
    · have e2 : (a.2 == b.2) = true := by simpa using h2
      rw [decide_eq_true h2, Bool.true_and]
      clear h1 h2
      go_enter Tryz.func167, Tryz.ntmps167
      go_wp2
      have u1 := fun x : ExtOf w => x.ext.cell g1
      have u2 := fun x : ExtOf w => x.ext.cell g2
      have u3 := fun x : ExtOf w => x.ext.cell g3
      have u4 := fun x : ExtOf w => x.ext.cell g4
      refine wp_region_ext (by kernel_rfl) (by kernel_rfl) ?_
      repeat (go_big_quiet_step ((fail)))
      refine wpQuiet_nil ?_
      rintro w9 ⟨⟨_, hb9⟩, rfl⟩
      go_wp2
      go_ret
      exact ⟨rfl, hb9⟩
    · have e2 : (a.2 == b.2) = false := by simpa using h2
      rw [decide_eq_false h2, Bool.false_and]
      clear h1 h2
      go_enter Tryz.func167, Tryz.ntmps167
      go_wp2
      have u1 := fun x : ExtOf w => x.ext.cell g1
      have u2 := fun x : ExtOf w => x.ext.cell g2
      have u3 := fun x : ExtOf w => x.ext.cell g3
      have u4 := fun x : ExtOf w => x.ext.cell g4
      refine wp_region_ext (by kernel_rfl) (by kernel_rfl) ?_
      repeat (go_big_quiet_step ((fail)))
      refine wpQuiet_nil ?_
      rintro w9 ⟨⟨_, hb9⟩, rfl⟩
      go_wp2
      go_ret
      exact ⟨rfl, hb9⟩
end Go.Proofs.YthlmcfbadhidbaaGreat
/- The program's heap of places (chapter 11): Push, Pop. -/
namespace Go.Proofs.YthlmcfbadhidbaaGreat
open Go Go.RowKit
attribute [local go_sem] Oper.semAt_some
/-- the builtin append, by what it yields -/
theorem operwp_append {P : Program} {o : Oper} {a : Act} {w w' : World} {K : Act → World → Prop} {Q : Exit → Act → World → Prop} (s x : Operand) (t : TypeId) {vs vx v : Value}
    (ho : o.op = .call { callee := .builtin .append, args := #[s, x], argTypes := #[t, t] }) (hs : a.eval s = vs) (hx : a.eval x = vx) (hrun : (Builtin.append_ #[t, t] o.type #[vs, vx]).run P w = .ok v w') (h : K (a.put o.dst v) w') : o.wp P a w K Q := by
  unfold Oper.wp execOp
  simp only [ho, resolve, invoke, builtin, Sem.run_bind, Sem.run_pure, Result.andThen_ok, List.map_toArray, List.map_cons, List.map_nil, hs, hx, hrun]
  exact h
/-- what is put onto the heap -/
def plV (x : Int × Int) : Value := .iface 65 (.agg #[.int .i64 x.1, .int .i64 x.2])
theorem two_set {p0 p1 : Pc} {Γ : List Pc} {j jb : Nat} (h : j ≠ jb) {a b : Pc} (hb : Γ[jb]? = some b) : ((p0 :: p1 :: Γ).set (j + 2) a)[jb + 2]? = some b := by
  rw [List.getElem?_set_ne (by omega)]; exact hb
theorem taPlace (a b : Int) (W : World) : (Instr.typeAssert (.iface 65 (.agg #[.int .i64 a, .int .i64 b])) 20 65 true).run Tryz.prog W = .ok (.tuple #[.agg #[.int .i64 a, .int .i64 b], .bool true]) W := by kernel_rfl
theorem infPla : ((Tryz.prog).info? 65).map (fun i => (i.zero, i.size, i.bytes)) = some (some (.agg #[.int .i64 0, .int .i64 0]), 2, 16) := by kernel_rfl
theorem Sep.alrw {w0 w : World} {Γ : List Pc} (S : Sep w0 w Γ) (cs : Array Value) (e : TypeId) (size n g : Nat) (hg : w.heap.size = g) (hm : n ≤ maxLen) (hs : cs.size = n * size) : Sep w0 (w.alloc (.cells cs e)) (.own e size (some ⟨g, 0, none⟩) n n cs.toList :: Γ) := by
  subst hg
  exact S.fresh (Ext.alloc (Below.refl _ _) _) (World.ownsRow_lit w cs n (Nat.le_refl _) hm hs) (Nat.le_refl _)
theorem Sep.appended {w0 w : World} {Γ : List Pc} (S : Sep w0 w Γ) (j : Nat) (t ty e : TypeId) (i : TypeInfo) (z : Value) (size bytes : Nat) (ht : (Tryz.prog).underlying t = some (.slice e)) (hi : (Tryz.prog).info? e = some i) (hz : i.zero = some z)
    (hsize : i.size = size) (hby : i.bytes = bytes) (hzs : z.cells.size = size) (hsz : 0 < size)
    (q : Option Addr) (n cq : Nat) (xs : List Value) (hj : Γ[j]? = some (.own e size q n cq xs)) (A : Option Addr) (m c : Nat) (news : List Value) (hr : Rd w size A m news) (h1 : ∀ u ∈ news, u.oneCell' = true)
    (hbytes : (n + m) * bytes ≤ 140737488355328) (h63 : n + m ≤ 140737488355328) :
    ∃ q' c' w', (Builtin.append_ #[t, t] ty #[.slice q n cq, .slice A m c]).run Tryz.prog w = .ok (.slice q' (n + m) c') w' ∧ Sep w0 w' (Γ.set j (.own e size q' (n + m) c' (xs ++ news))) := by
  obtain ⟨q', c', w', hrun, ho', hg, hat, _⟩ := run_append_rd (P := Tryz.prog) w w0.heap.size t ty e i z size bytes ht hi hz hsize hby hzs hsz q n cq xs (S.own j hj) A m c news hr h1 hbytes h63 S.ext.size
  refine ⟨q', c', w', hrun, S.put j hj _ hg (fun k hk => hk) (own_base ho' (Nat.zero_le _)) fun k hk => ?_⟩
  rcases hat with h | h
  · exact .inl (h.symm.trans hk)
  · have : some w.heap.size = some k := h.symm.trans hk
    injection this with this
    exact .inr (by omega)
set_option maxRecDepth 100000 in
set_option maxHeartbeats 4000000 in
theorem HPush (gb : Nat) (q : Option Addr) (n c : Nat) (X : List (Int × Int)) (x : Int × Int) (w w0 : World) (Γ : List Pc) (jb j : Nat) (S : Sep w0 w Γ) (hb : Γ[jb]? = some (.blk gb 60 #[.slice q n c])) (hj : Γ[j]? = some (.own 65 2 q n c (encE X))) (hne : jb ≠ j) (hn : n ≤ 100000) :
    Calls Tryz.prog 169 #[.pointer (some ⟨gb, 0, none⟩), plV x] w fun e w' => e = .returned (.tuple #[]) ∧ ∃ q' c', Sep w0 w' ((Γ.set j (.own 65 2 q' (n + 1) c' (encE (X ++ [x])))).set jb (.blk gb 60 #[.slice q' (n + 1) c'])) := by
  have b0 := (S.blk jb hb).cell 0
  have bz := (S.blk jb hb).lt
  have bf := (S.blk jb hb).frozen 0
  unfold plV
  have TA := taPlace x.1 x.2
  have SH := Lib.hid S; clear S
  obtain ⟨i0, hi0, hz0, hz1, hz2⟩ := info_parts infPla
  go_enter Tryz.func169, Tryz.ntmps169
  go_wp2
  obtain ⟨Y, hY⟩ : ∃ Y, Y = w.alloc (.cells #[.int .i64 x.1, .int .i64 x.2] 65) := ⟨_, rfl⟩
  have S1 := Lib.hid (hY ▸ SH.out.al #[.int .i64 x.1, .int .i64 x.2] 65 w.heap.size rfl : Sep w0 Y (.blk w.heap.size 65 #[.int .i64 x.1, .int .i64 x.2] :: Γ))
  rw [← hY]
  clear hY b0 bz bf
  have b0 := (S1.out.blk (jb + 1) hb).cell 0
  have bz := (S1.out.blk (jb + 1) hb).lt
  have e0 := (S1.out.blk 0 rfl).cell 0
  have e1 := (S1.out.blk 0 rfl).cell 1
  have ez := (S1.out.blk 0 rfl).lt
  have S4 := Lib.hid (S1.out.alrw #[.int .i64 x.1, .int .i64 x.2] 65 2 1 Y.heap.size rfl (by decide) rfl).drew
  obtain ⟨q', c', w7, hrun, S'⟩ := S4.out.appended (j + 2) 60 60 65 i0 _ 2 16 Tryz.underlying60 hi0 hz0 hz1 hz2 rfl (by omega) q n c (encE X) hj (some ⟨Y.heap.size, 0, none⟩) 1 1 (encE [x]) (S4.out.rdx 0 rfl) (one_encE _) (by omega) (by omega)
  have hb7 := two_set (p0 := Pc.own 65 2 (some ⟨Y.heap.size, 0, none⟩) 1 1 [.int .i64 x.1, .int .i64 x.2]) (p1 := Pc.blk w.heap.size 65 #[.int .i64 x.1, .int .i64 x.2]) (a := Pc.own 65 2 q' (n + 1) c' (encE X ++ encE [x])) (fun e => hne e.symm) hb
  have k4 := (S'.blk (jb + 2) hb7).cell 0
  have kf := (S'.blk (jb + 2) hb7).frozen 0
  have kz := (S'.blk (jb + 2) hb7).lt
  have S6 := Lib.hid S'
  have HB7 := Lib.hid hb7
  clear S' hb7 hb hj
  refine wp_region_any (by kernel_rfl) ?_
  change wpAny _ _ _ _ _ _ _ (World.drew _)
  refine wpAny_take (i := 0) (v := .pointer (some ⟨gb, 0, none⟩)) rfl (by kernel_rfl) (by kernel_rfl) (by kernel_rfl) (fun _ _ _ h => h) (Or.inl ⟨by rfl, fun W => by go_simp⟩) ?_
  refine wpAny_take (i := 1) (v := .pointer (some ⟨gb, 0, none⟩)) rfl (by kernel_rfl) (by kernel_rfl) (by kernel_rfl) (fun _ _ _ h => h) (Or.inl ⟨by rfl, fun W => by go_simp⟩) ?_
  refine wpAny_take (i := 2) (v := .pointer (some ⟨gb, 0, none⟩)) rfl (by kernel_rfl) (by kernel_rfl) (by kernel_rfl) (fun _ _ _ h => h) (Or.inl ⟨by rfl, fun W => by go_simp⟩) ?_
  refine wpAny_ready (rs := [3, 4]) (by kernel_rfl) (by simp) (AllReady.cons rfl (fun K hK => ?_) (AllReady.cons rfl (fun K hK => ?_) AllReady.nil))
  · go_simp
    refine hK _ _ ?_
    clear hK
    refine wpAny_ready (rs := [4]) (by kernel_rfl) (by simp) (AllReady.cons rfl (fun K hK => ?_) AllReady.nil)
    go_simp
    refine hK _ _ ?_
    clear hK
    refine wpAny_ready (rs := [5]) (by kernel_rfl) (by simp) (AllReady.cons rfl (fun K hK => ?_) AllReady.nil)
    go_simp
    refine hK _ _ ?_
    clear hK
    refine wpAny_ready (rs := [6]) (by kernel_rfl) (by simp) (AllReady.cons rfl (fun K hK => ?_) AllReady.nil)
    rw [if_pos (by rfl)]
    refine operwp_append (.tmp 15) (.tmp 17) 60 rfl rfl rfl hrun ?_
    refine hK _ _ ?_
    clear hK
    refine wpAny_ready (rs := [7]) (by kernel_rfl) (by simp) (AllReady.cons rfl (fun K hK => ?_) AllReady.nil)
    go_simp
    refine hK _ _ ?_
    clear hK
    refine wpAny_ready (rs := [8]) (by kernel_rfl) (by simp) (AllReady.cons rfl (fun K hK => ?_) AllReady.nil)
    go_simp
    refine hK _ _ ?_
    clear hK
    refine wpAny_done (by kernel_rfl) ?_ _
    go_end0
    refine ⟨rfl, q', c', ?_⟩
    have T := S6.out.set (jb + 2) HB7.out 0 (.slice q' (n + 1) c')
    rw [encE_append]
    exact T.sub ((List.sublist_cons_self _ _).trans (List.sublist_cons_self _ _))
  · go_simp
    refine hK _ _ ?_
    clear hK
    refine wpAny_ready (rs := [3, 5]) (by kernel_rfl) (by simp) (AllReady.cons rfl (fun K hK => ?_) (AllReady.cons rfl (fun K hK => ?_) AllReady.nil))
    · go_simp
      refine hK _ _ ?_
      clear hK
      refine wpAny_ready (rs := [5]) (by kernel_rfl) (by simp) (AllReady.cons rfl (fun K hK => ?_) AllReady.nil)
      go_simp
      refine hK _ _ ?_
      clear hK
      refine wpAny_ready (rs := [6]) (by kernel_rfl) (by simp) (AllReady.cons rfl (fun K hK => ?_) AllReady.nil)
      rw [if_pos (by rfl)]
      refine operwp_append (.tmp 15) (.tmp 17) 60 rfl rfl rfl hrun ?_
      refine hK _ _ ?_
      clear hK
      refine wpAny_ready (rs := [7]) (by kernel_rfl) (by simp) (AllReady.cons rfl (fun K hK => ?_) AllReady.nil)
      go_simp
      refine hK _ _ ?_
      clear hK
      refine wpAny_ready (rs := [8]) (by kernel_rfl) (by simp) (AllReady.cons rfl (fun K hK => ?_) AllReady.nil)
      go_simp
      refine hK _ _ ?_
      clear hK
      refine wpAny_done (by kernel_rfl) ?_ _
      go_end0
      refine ⟨rfl, q', c', ?_⟩
      have T := S6.out.set (jb + 2) HB7.out 0 (.slice q' (n + 1) c')
      rw [encE_append]
      exact T.sub ((List.sublist_cons_self _ _).trans (List.sublist_cons_self _ _))
    · go_simp
      refine hK _ _ ?_
      clear hK
      refine wpAny_ready (rs := [3]) (by kernel_rfl) (by simp) (AllReady.cons rfl (fun K hK => ?_) AllReady.nil)
      go_simp
      refine hK _ _ ?_
      clear hK
      refine wpAny_ready (rs := [6]) (by kernel_rfl) (by simp) (AllReady.cons rfl (fun K hK => ?_) AllReady.nil)
      rw [if_pos (by rfl)]
      refine operwp_append (.tmp 15) (.tmp 17) 60 rfl rfl rfl hrun ?_
      refine hK _ _ ?_
      clear hK
      refine wpAny_ready (rs := [7]) (by kernel_rfl) (by simp) (AllReady.cons rfl (fun K hK => ?_) AllReady.nil)
      go_simp
      refine hK _ _ ?_
      clear hK
      refine wpAny_ready (rs := [8]) (by kernel_rfl) (by simp) (AllReady.cons rfl (fun K hK => ?_) AllReady.nil)
      go_simp
      refine hK _ _ ?_
      clear hK
      refine wpAny_done (by kernel_rfl) ?_ _
      go_end0
      refine ⟨rfl, q', c', ?_⟩
      have T := S6.out.set (jb + 2) HB7.out 0 (.slice q' (n + 1) c')
      rw [encE_append]
      exact T.sub ((List.sublist_cons_self _ _).trans (List.sublist_cons_self _ _))
theorem Sep.cut {w0 w : World} {Γ : List Pc} (S : Sep w0 w Γ) (j : Nat) {e : TypeId} {size n c : Nat} {q : Option Addr} {xs ys : List Value} (k : Nat) (hj : Γ[j]? = some (.own e size q n c (xs ++ ys))) (hk : xs.length = k * size) (hkn : k ≤ n) : Sep w0 w (Γ.set j (.own e size q k c xs)) :=
  S.put j hj _ (row := none) (World.grownBy.refl _ _) (fun _ h => nomatch h) (own_base (own_take (S.own j hj) hk hkn) (Nat.zero_le _)) fun _ hk => .inl hk
set_option maxRecDepth 100000 in
set_option maxHeartbeats 4000000 in
theorem HPop (gb : Nat) (q : Option Addr) (n c : Nat) (X : List (Int × Int)) (w w0 : World) (Γ : List Pc) (jb j : Nat) (S : Sep w0 w Γ) (hb : Γ[jb]? = some (.blk gb 60 #[.slice q (n + 1) c])) (hj : Γ[j]? = some (.own 65 2 q (n + 1) c (encE X))) (hne : jb ≠ j) (hn : n ≤ 100000) :
    Calls Tryz.prog 168 #[.pointer (some ⟨gb, 0, none⟩)] w fun e w' => e = .returned (plV (nth X n)) ∧ Sep w0 w' ((Γ.set j (.own 65 2 q n c (encE (X.take n)))).set jb (.blk gb 60 #[.slice q n c])) := by
  have b0 := (S.blk jb hb).cell 0
  have bz := (S.blk jb hb).lt
  have bf := (S.blk jb hb).frozen 0
  have hl := S.rd j hj (by omega)
  have hcap := own_cap (S.own j hj)
  have g1 := hl.cE (k := n) (by omega)
  have g2 := hl.cE2 (k := n) (by omega)
  have p1 := hl.ptr
  have hnX := hl.nE
  have d1 : (0:Int) ≤ n := by omega
  have d2 : (n:Int) < (n:Int) + 1 := by omega
  have HNX := Lib.hid hnX
  clear hnX
  generalize nth X n = x at *
  unfold plV
  clear hl
  have SH := Lib.hid S; clear S
  go_enter Tryz.func168, Tryz.ntmps168
  go_wp2
  go_ret
  refine ⟨rfl, ?_⟩
  have T := (SH.out.set jb hb 0 (.slice q n c)).junk (.cells #[.int .i64 x.1, .int .i64 x.2] 65)
  have hj2 : (Γ.set jb (.blk gb 60 #[.slice q n c]))[j]? = some (.own 65 2 q (n + 1) c (encE (X.take n) ++ encE (X.drop n))) := by
    rw [← encE_append, List.take_append_drop, List.getElem?_set_ne hne]; exact hj
  have hX := HNX.out
  have T2 := Sep.cut T j n hj2 (by rw [encE_len, List.length_take]; omega) (by omega)
  rw [List.set_comm _ _ hne] at T2
  exact T2
end Go.Proofs.YthlmcfbadhidbaaGreat
/- The program's heap of places (chapter 11): Swap. -/
namespace Go.Proofs.YthlmcfbadhidbaaGreat
open Go Go.RowKit
theorem pc_set {Γ : List Pc} {j : Nat} {p q : Pc} (h : Γ[j]? = some p) : (Γ.set j q)[j]? = some q := by
  have := (List.getElem?_eq_some_iff.1 h).1
  rw [List.getElem?_set, if_pos rfl, if_pos this]
theorem encE_set2 {X : List (Int × Int)} {i : Nat} (x : Int × Int) (h : i < X.length) : encE (X.set i x) = ((encE X).set (i * 2) (.int .i64 x.1)).set (i * 2 + 1) (.int .i64 x.2) := by
  rw [← encE_set X i x h]
  have hl := encE_len X
  have e : encE X = (encE X).take (i * 2) ++ (encE X).drop (i * 2) := (List.take_append_drop _ _).symm
  apply List.ext_getElem?
  intro m
  rw [List.getElem?_set, List.getElem?_set]
  simp only [List.length_set, List.getElem?_append, List.length_append, List.length_take, List.length_cons, List.length_nil, List.getElem?_take, List.getElem?_drop]
  by_cases h1 : m < i * 2
  · rw [if_pos (by omega), if_pos (by omega), if_pos h1, if_neg (by omega), if_neg (by omega)]
  · by_cases h2 : m = i * 2
    · subst h2
      rw [if_pos (by omega), if_neg (by omega), if_neg (by omega), if_pos rfl, if_pos (by omega), show i * 2 - min (i * 2) (encE X).length = 0 by omega]; rfl
    · by_cases h3 : m = i * 2 + 1
      · subst h3
        rw [if_pos (by omega), if_neg (by omega), if_pos rfl, if_pos (by omega), show i * 2 + 1 - min (i * 2) (encE X).length = 1 by omega]; rfl
      · rw [if_neg (by omega), if_neg (by omega), if_neg (by omega)]
        congr 1; omega
theorem set_again (l : List Value) (m : Nat) (a b : Value) : (((l.set m a).set (m + 1) b).set m a).set (m + 1) b = (l.set m a).set (m + 1) b := by
  rw [List.set_comm b a (by omega : m + 1 ≠ m), List.set_set, List.set_set]
theorem encE_swap {X : List (Int × Int)} {i k : Nat} (hi : i < X.length) (hk : k < X.length) (_ : i ≠ k) : ((((encE X).set (i * 2) (.int .i64 (nth X k).1)).set (i * 2 + 1) (.int .i64 (nth X k).2)).set (k * 2) (.int .i64 (nth X i).1)).set (k * 2 + 1) (.int .i64 (nth X i).2) = encE (swapL X i k) := by
  unfold swapL
  rw [encE_set2 _ (by simpa using hk), encE_set2 _ hi]
set_option maxRecDepth 100000 in
set_option maxHeartbeats 4000000 in
theorem HSwapNe (g n c : Nat) (X : List (Int × Int)) (i k : Nat) (w w0 : World) (Γ : List Pc) (j : Nat) (S : Sep w0 w Γ) (hj : Γ[j]? = some (.own 65 2 (some ⟨g, 0, none⟩) n c (encE X))) (hi : i < n) (hk : k < n) (hik : i ≠ k) (hn : n ≤ 1000000) :
    Calls Tryz.prog 170 #[.slice (some ⟨g, 0, none⟩) n c, .int .i64 i, .int .i64 k] w fun e w' => e = .returned (.tuple #[]) ∧ Sep w0 w' (Γ.set j (.own 65 2 (some ⟨g, 0, none⟩) n c (encE (swapL X i k)))) := by
  have ho := S.own j hj
  have hl := S.rd j hj (by omega)
  have g1 := hl.cE2 hi
  have g2 := hl.cE2 hk
  have g3 := hl.cE hi
  have g4 := hl.cE hk
  rw [adr_some, Nat.zero_add] at g1 g2 g3 g4
  have k1 : w.frozen? ⟨g, i * 2, none⟩ = false := by have := own_frozen ho (by omega) (i * 2); rwa [adr_some, Nat.zero_add] at this
  have k2 : w.frozen? ⟨g, i * 2 + 1, none⟩ = false := by have := own_frozen ho (by omega) (i * 2 + 1); rwa [adr_some, Nat.zero_add] at this
  have k3 : w.frozen? ⟨g, k * 2, none⟩ = false := by have := own_frozen ho (by omega) (k * 2); rwa [adr_some, Nat.zero_add] at this
  have k4 : w.frozen? ⟨g, k * 2 + 1, none⟩ = false := by have := own_frozen ho (by omega) (k * 2 + 1); rwa [adr_some, Nat.zero_add] at this
  have z1 : g < w.heap.size := (S.blt j hj (by omega)).2
  have d1 : (0:Int) ≤ i := by omega
  have d2 : (i:Int) < n := by omega
  have d3 : (0:Int) ≤ k := by omega
  have d4 : (k:Int) < n := by omega
  have x1 : i * 2 ≠ k * 2 := by omega
  have x2 : i * 2 + 1 ≠ k * 2 := by omega
  have x3 : i * 2 ≠ k * 2 + 1 := by omega
  have x4 : i * 2 + 1 ≠ k * 2 + 1 := by omega
  have hnX := hl.nE
  have HX := Lib.hid (encE_swap (X := X) (i := i) (k := k) (by rw [← hnX]; exact hi) (by rw [← hnX]; exact hk) hik)
  generalize nth X i = a at *
  generalize nth X k = b at *
  clear hl ho
  have SH := Lib.hid S; clear S
  have mixed : (Tryz.prog).follows Departure.mixedOrders = true := by kernel_rfl
  clear hnX
  go_enter Tryz.func170, Tryz.ntmps170
  go_wp2
  go_region_o
  all_goals
    go_end0
    refine ⟨rfl, ?_⟩
    have T := ((SH.out.setRow2 j hj (i * 2) (by omega) (.int .i64 b.1) (.int .i64 b.2)).setRow2 j (pc_set hj) (k * 2) (by omega) (.int .i64 a.1) (.int .i64 a.2)).drew
    simp only [adr_some, Nat.zero_add, List.set_set] at T
    rw [← HX.out]
    exact T
set_option maxRecDepth 100000 in
set_option maxHeartbeats 4000000 in
theorem HSwapEq (g n c : Nat) (X : List (Int × Int)) (i : Nat) (w w0 : World) (Γ : List Pc) (j : Nat) (S : Sep w0 w Γ) (hj : Γ[j]? = some (.own 65 2 (some ⟨g, 0, none⟩) n c (encE X))) (hi : i < n) (hn : n ≤ 1000000) :
    Calls Tryz.prog 170 #[.slice (some ⟨g, 0, none⟩) n c, .int .i64 i, .int .i64 i] w fun e w' => e = .returned (.tuple #[]) ∧ Sep w0 w' (Γ.set j (.own 65 2 (some ⟨g, 0, none⟩) n c (encE (swapL X i i)))) := by
  have ho := S.own j hj
  have hl := S.rd j hj (by omega)
  have g1 := hl.cE2 hi
  have g3 := hl.cE hi
  rw [adr_some, Nat.zero_add] at g1 g3
  have k1 : w.frozen? ⟨g, i * 2, none⟩ = false := by have := own_frozen ho (by omega) (i * 2); rwa [adr_some, Nat.zero_add] at this
  have k2 : w.frozen? ⟨g, i * 2 + 1, none⟩ = false := by have := own_frozen ho (by omega) (i * 2 + 1); rwa [adr_some, Nat.zero_add] at this
  have z1 : g < w.heap.size := (S.blt j hj (by omega)).2
  have d1 : (0:Int) ≤ i := by omega
  have d2 : (i:Int) < n := by omega
  have hnX := hl.nE
  have HX : Hid (encE (X.set i (nth X i)) = encE (swapL X i i)) := by unfold Hid swapL; rw [List.set_set]
  rw [encE_set2 _ (by omega)] at HX
  generalize nth X i = a at *
  clear hl ho
  have SH := Lib.hid S; clear S
  have mixed : (Tryz.prog).follows Departure.mixedOrders = true := by kernel_rfl
  clear hnX
  go_enter Tryz.func170, Tryz.ntmps170
  go_wp2
  go_region_o
  all_goals
    go_end0
    refine ⟨rfl, ?_⟩
    have T := ((SH.out.setRow2 j hj (i * 2) (by omega) (.int .i64 a.1) (.int .i64 a.2)).setRow2 j (pc_set hj) (i * 2) (by omega) (.int .i64 a.1) (.int .i64 a.2)).drew
    simp only [adr_some, Nat.zero_add, List.set_set] at T
    rw [set_again] at T
    rw [← HX.out]
    exact T
theorem HSwap (q : Option Addr) (n c : Nat) (X : List (Int × Int)) (i k : Nat) (w w0 : World) (Γ : List Pc) (j : Nat) (S : Sep w0 w Γ) (hj : Γ[j]? = some (.own 65 2 q n c (encE X))) (hi : i < n) (hk : k < n) (hn : n ≤ 1000000) :
    Calls Tryz.prog 170 #[.slice q n c, .int .i64 i, .int .i64 k] w fun e w' => e = .returned (.tuple #[]) ∧ Sep w0 w' (Γ.set j (.own 65 2 q n c (encE (swapL X i k)))) := by
  obtain ⟨g, rfl, _⟩ := own_block (S.own j hj) (by omega)
  by_cases e : i = k
  · subst e
    exact HSwapEq g n c X i w w0 Γ j S hj hi hn
  · exact HSwapNe g n c X i k w w0 Γ j S hj hi hk e hn
end Go.Proofs.YthlmcfbadhidbaaGreat
/- A row of the call's own, and what an elder slice of it reads: an append to the row leaves that as it was. -/
namespace Go.Proofs.YthlmcfbadhidbaaGreat
open Go Go.RowKit
theorem run_append_keep {P : Program} (w : World) (base : Nat) (t ty e : TypeId) (i : TypeInfo) (z : Value) (size bytes : Nat) (ht : P.underlying t = some (.slice e)) (hi : P.info? e = some i) (hz : i.zero = some z)
    (hsize : i.size = size) (hby : i.bytes = bytes) (hzs : z.cells.size = size) (hsz : 0 < size)
    (q : Option Addr) (n cq : Nat) (xs : List Value) (hown : w.ownsRow base e size (.slice q n cq) n xs)
    (A : Option Addr) (m c : Nat) (news : List Value) (hr : Rd w size A m news) (h1 : ∀ u ∈ news, u.oneCell' = true)
    (hbytes : (n + m) * bytes ≤ 140737488355328) (h63 : n + m ≤ 140737488355328) (hbase : base ≤ w.heap.size) (hm : 0 < m) :
    ∃ q' c' w', (Builtin.append_ #[t, t] ty #[.slice q n cq, .slice A m c]).run P w = .ok (.slice q' (n + m) c') w' ∧ w'.ownsRow base e size (.slice q' (n + m) c') (n + m) (xs ++ news) ∧ w.grownBy w' (blkOf q) ∧
      (blkOf q' = blkOf q ∨ blkOf q' = some w.heap.size) ∧ Rd w' size q n xs := by
  obtain ⟨q', c', w', hrun, ho, hg, hat, _⟩ := run_append_rd (P := P) w base t ty e i z size bytes ht hi hz hsize hby hzs hsz q n cq xs hown A m c news hr h1 hbytes h63 hbase
  refine ⟨q', c', w', hrun, ho, hg, hat, ?_⟩
  by_cases hn0 : n = 0
  · subst hn0
    have hx : xs = [] := List.eq_nil_of_length_eq_zero (by have := hown.1; omega)
    subst hx
    exact Rd.nil _ _ _
  have hxl : xs.length = n * size := hown.1
  obtain ⟨g', hq', _⟩ := own_block ho (by omega)
  rcases hat with hat | hat
  · obtain ⟨g, hq, _⟩ := own_block hown hn0
    have : q' = q := by
      rw [hq', hq] at hat ⊢
      injection hat with hat
      have hat : g' = g := hat
      rw [hat]
    rw [← this]
    have h := (Rd.of_own ho (by omega)).take (k := n) (by omega)
    rwa [List.take_left' hxl] at h
  · have hnews : ∀ (ad : Addr), A = some ad → ∀ j u, news[j]? = some u → w.cell? (ad.add j) = some u := by
      intro ad hA j u hu
      have hj : j < news.length := by
        rcases Nat.lt_or_ge j news.length with h | h
        · exact h
        · rw [List.getElem?_eq_none h] at hu; cases hu
      have had : ad = adr A 0 := by have := hr.ptr.some (by omega); rw [hA] at this ⊢; injection this
      have := hr.cells j (by rw [← hr.len]; exact hj)
      rw [had, adr_add, Nat.zero_add, this, List.getD_eq_getElem?_getD, hu]; rfl
    obtain ⟨ad, hA⟩ : ∃ ad, A = some ad := by rw [hr.ptr.some (by omega)]; exact ⟨_, rfl⟩
    subst hA
    rcases hown.2 with ⟨h2, _⟩ | ⟨g, cap, cur, h2, hbg, hgh, hnc, hcm, hcs, htake⟩
    · injection h2 with h2 h3; exact absurd h3 hn0
    · injection h2 with h2 _ h4
      subst h2 h4
      have hglt : g < w.heap.size := by
        rcases Nat.lt_or_ge g w.heap.size with h | h
        · exact h
        · rw [Array.getElem?_eq_none h] at hgh; cases hgh
      by_cases hroom : n + m ≤ cq
      · have hfit : n * i.size + news.length ≤ cur.size := by rw [hr.len, hcs, hsize, ← Nat.add_mul]; exact Nat.mul_le_mul_right _ hroom
        have hr2 := run_append_room (P := P) w t ty e i ht hi g n cq cur hgh ad m c news (by rw [hsize]; exact hr.len) (hnews ad rfl) h1 hroom hfit
        rw [hr2] at hrun
        injection hrun with h5 _
        injection h5 with h5 _ _
        rw [← h5] at hat
        have hat : some g = some w.heap.size := hat
        injection hat with hat
        omega
      · have holds : ∀ j u, xs[j]? = some u → w.cell? ((⟨g, 0, none⟩ : Addr).add j) = some u := hown.cells (g := g) rfl
        have hr2 := run_append_grow (P := P) w t ty e i z ht hi hz ⟨g, 0, none⟩ n cq xs (by rw [hsize]; exact hxl) holds ad m c news (by rw [hsize]; exact hr.len) (hnews ad rfl) (by omega) (by omega) (growslice_fits (by omega) (by rw [hby]; exact hbytes))
        rw [hr2] at hrun
        injection hrun with _ h6
        rw [← h6]
        exact (Rd.of_own hown (by omega)).ext (Ext.alloc (Below.refl _ _).drew _)
/-- what an elder slice reads hangs on its block alone -/
theorem Rd.loc {w w' : World} {size n : Nat} {p : Option Addr} {xs : List Value} (h : Rd w size p n xs) (hk : ∀ k, blkOf p = some k → w'.heap[k]? = w.heap[k]?) : Rd w' size p n xs := by
  refine ⟨h.len, h.ptr, h.small, fun j hj => ?_⟩
  have h1 := h.cells j hj
  rcases h.ptr with h0 | ⟨b, o, rfl⟩
  · subst h0; omega
  · have h2 := hk b rfl
    rw [← h1]
    show w'.cell? ⟨b, o + j, none⟩ = w.cell? ⟨b, o + j, none⟩
    simp only [World.cell?, h2]
theorem Rd.blk_lt {w : World} {size n : Nat} {p : Option Addr} {xs : List Value} (h : Rd w size p n xs) (hs : 0 < n * size) {k : Nat} (hk : blkOf p = some k) : k < w.heap.size := by
  rcases h.ptr with h0 | ⟨b, o, rfl⟩
  · subst h0; omega
  · have h1 := h.cells 0 hs
    have h2 := World.block_lt_of_cell? w _ h1
    have h3 : b = k := by injection hk
    subst h3
    exact h2
/-- an own row, and what the elder slice p0 of n0 reads -/
def Pc.ownS (e : TypeId) (size : Nat) (q : Option Addr) (n c : Nat) (xs : List Value) (p0 : Option Addr) (n0 : Nat) (ys : List Value) : Pc :=
  ⟨fun k => blkOf q = some k ∨ (0 < n0 * size ∧ blkOf p0 = some k), fun w => w.ownsRow 0 e size (.slice q n c) n xs ∧ Rd w size p0 n0 ys,
   fun w h k hk => by
    rcases hk with hk | ⟨h0, hk⟩
    · exact (own_lt h.1 hk).2
    · exact h.2.blk_lt h0 hk,
   fun w w' h hk => by
    refine ⟨own_loc h.1 fun k hb => hk k (.inl hb), ?_⟩
    by_cases h0 : 0 < n0 * size
    · exact h.2.loc fun k hb => hk k (.inr ⟨h0, hb⟩)
    · have hn : ∀ j, j < n0 * size → False := fun j hj => by omega
      exact ⟨h.2.len, h.2.ptr, h.2.small, fun j hj => (hn j hj).elim⟩⟩
theorem Sep.ownS {w0 w : World} {Γ : List Pc} (S : Sep w0 w Γ) (j : Nat) {e : TypeId} {size : Nat} {q p0 : Option Addr} {n c n0 : Nat} {xs ys : List Value} (hj : Γ[j]? = some (.ownS e size q n c xs p0 n0 ys)) : w.ownsRow 0 e size (.slice q n c) n xs ∧ Rd w size p0 n0 ys := S.all _ (List.mem_of_getElem? hj)
/-- an append to such a row -/
theorem Sep.appendedS {w0 w : World} {Γ : List Pc} (S : Sep w0 w Γ) (j : Nat) (t ty e : TypeId) (i : TypeInfo) (z : Value) (size bytes : Nat) (ht : (Tryz.prog).underlying t = some (.slice e)) (hi : (Tryz.prog).info? e = some i) (hz : i.zero = some z)
    (hsize : i.size = size) (hby : i.bytes = bytes) (hzs : z.cells.size = size) (hsz : 0 < size)
    (q : Option Addr) (n cq : Nat) (xs : List Value) (hj : Γ[j]? = some (.ownS e size q n cq xs q n xs)) (A : Option Addr) (m c : Nat) (news : List Value) (hr : Rd w size A m news) (h1 : ∀ u ∈ news, u.oneCell' = true)
    (hbytes : (n + m) * bytes ≤ 140737488355328) (h63 : n + m ≤ 140737488355328) (hm : 0 < m) :
    ∃ q' c' w', (Builtin.append_ #[t, t] ty #[.slice q n cq, .slice A m c]).run Tryz.prog w = .ok (.slice q' (n + m) c') w' ∧ Sep w0 w' (Γ.set j (.ownS e size q' (n + m) c' (xs ++ news) q n xs)) := by
  obtain ⟨q', c', w', hrun, ho', hg, hat, hk⟩ := run_append_keep (P := Tryz.prog) w 0 t ty e i z size bytes ht hi hz hsize hby hzs hsz q n cq xs (S.ownS j hj).1 A m c news hr h1 hbytes h63 (Nat.zero_le _) hm
  refine ⟨q', c', w', hrun, S.put j hj _ hg (fun k hk => .inl hk) ⟨ho', hk⟩ fun k hk => ?_⟩
  rcases hk with hk | ⟨_, hk⟩
  · rcases hat with h | h
    · exact .inl (.inl (h.symm.trans hk))
    · have : some w.heap.size = some k := h.symm.trans hk
      injection this with this
      exact .inr (by omega)
  · exact .inl (.inl hk)
/-- pieces are weakened, each for itself -/
theorem Sep.weak {w0 w : World} {Γ Δ : List Pc} (S : Sep w0 w Γ) (hl : Δ.length = Γ.length) (h : ∀ (i : Nat) p q, Γ[i]? = some p → Δ[i]? = some q → p.holds w → q.holds w ∧ ∀ k, q.foot k → p.foot k) : Sep w0 w Δ := by
  have key : ∀ (i : Nat) (q : Pc), Δ[i]? = some q → ∃ p, Γ[i]? = some p ∧ p ∈ Γ ∧ q.holds w ∧ ∀ k, q.foot k → p.foot k := fun i q hq => by
    have hi := (List.getElem?_eq_some_iff.1 hq).1
    have hp : Γ[i]? = some Γ[i] := List.getElem?_eq_getElem (by omega)
    have hm : Γ[i] ∈ Γ := List.getElem_mem _
    exact ⟨_, hp, hm, h i _ q hp hq (S.all _ hm)⟩
  refine ⟨S.ext, fun q hq => ?_, fun q hq k hk => ?_, ?_⟩
  · obtain ⟨i, hi, rfl⟩ := List.mem_iff_getElem.1 hq
    obtain ⟨p, _, _, h1, _⟩ := key i _ (List.getElem?_eq_getElem hi)
    exact h1
  · obtain ⟨i, hi, rfl⟩ := List.mem_iff_getElem.1 hq
    obtain ⟨p, _, hm, _, h2⟩ := key i _ (List.getElem?_eq_getElem hi)
    exact S.new p hm k (h2 k hk)
  · rw [List.pairwise_iff_getElem]
    intro a b ha hb hab k hka hkb
    obtain ⟨p, hp, _, _, h2⟩ := key a _ (List.getElem?_eq_getElem ha)
    obtain ⟨p', hp', _, _, h2'⟩ := key b _ (List.getElem?_eq_getElem hb)
    exact S.apart_at hp hp' (by omega) (h2 k hka) (h2' k hkb)
end Go.Proofs.YthlmcfbadhidbaaGreat
/- The program's labels (chapter 12): a hit is put to a place's row. -/
namespace Go.Proofs.YthlmcfbadhidbaaGreat
open Go Go.RowKit
attribute [local go_sem ↓] Go.wp_at_zero Go.wp_at_succ
theorem infHit : ((Tryz.prog).info? 54).map (fun i => (i.zero, i.size, i.bytes)) = some (some (.agg #[.int .i64 0, .int .i64 0]), 2, 16) := by kernel_rfl
theorem encH_set (l : List Hd) (k : Nat) (p : Option Addr) (n c : Nat) : (encH l).set k (.slice p n c) = encH (l.set k ⟨p, n, c⟩) := by simp [encH, List.map_set, Hd.v]
set_option maxRecDepth 100000 in
set_option maxHeartbeats 4000000 in
theorem AddI (gl : Nat) (pO : Option Addr) (nO cO : Nat) (pI : Option Addr) (n cI : Nat) (hs : List Hd) (row : List (Int × Int)) (v : Nat) (x : Int × Int) (w w0 : World) (Γ : List Pc) (j0 j1 j2 : Nat) (S : Sep w0 w Γ)
    (h0 : Γ[j0]? = some (.blk gl 42 #[.slice pO nO cO, .slice pI n cI])) (h1 : Γ[j1]? = some (.own 52 1 pI n cI (encH hs))) (h2 : Γ[j2]? = some (.ownS 54 2 (nth hs v).p (nth hs v).n (nth hs v).c (encE row) (nth hs v).p (nth hs v).n (encE row))) (hne : j1 ≠ j2) (hne0 : j0 ≠ j2) (hne1 : j0 ≠ j1) (hv : v < n) (hn : n ≤ 1000) (hr : row.length ≤ 1000) :
    Calls Tryz.prog 48 #[.int .i64 v, .agg #[.int .i64 x.1, .int .i64 x.2], .pointer (some ⟨gl, 0, none⟩)] w fun e w' => e = .returned (.tuple #[]) ∧ ∃ p' c', Sep w0 w' ((Γ.set j2 (.ownS 54 2 p' (row.length + 1) c' (encE (row ++ [x])) (nth hs v).p row.length (encE row))).set j1 (.own 52 1 pI n cI (encH (hs.set v ⟨p', row.length + 1, c'⟩)))) := by
  obtain ⟨i0, hi0, hz0, hz1, hz2⟩ := info_parts infHit
  have hR := Rd.of_own (S.ownS j2 h2).1 (own_sm (S.ownS j2 h2).1)
  have hrl : (nth hs v).n = row.length := hR.nE
  have p1 := (S.rdx j1 h1).ptr
  have d1 : (0:Int) ≤ v := by omega
  have d2 : (v:Int) < n := by omega
  have HNE := Lib.hid hne
  have HNE0 := Lib.hid hne0
  have HNE1 := Lib.hid hne1
  have HV := Lib.hid hv
  obtain ⟨h, hh⟩ : ∃ h, nth hs v = h := ⟨_, rfl⟩
  rw [hh] at h2 hrl ⊢
  have HH := Lib.hid hh
  clear hh hR hne hv hne0 hne1
  obtain ⟨hp, hn', hc⟩ := h
  obtain ⟨x1, x2⟩ := x
  simp only at hrl h2
  subst hrl
  simp only
  have H0 := Lib.hid h0
  have H1 := Lib.hid h1
  have H2 := Lib.hid h2
  have S1 := Lib.hid (S.al #[.int .i64 x1, .int .i64 x2] 54 w.heap.size rfl)
  have a0 := (S1.out.blk 0 rfl).cell 0
  have a1 := (S1.out.blk 0 rfl).cell 1
  have az := (S1.out.blk 0 rfl).lt
  have b0 := (S1.out.blk (j0 + 1) h0).cell 0
  have b1 := (S1.out.blk (j0 + 1) h0).cell 1
  have bz := (S1.out.blk (j0 + 1) h0).lt
  have g1 := (S1.out.rdx (j1 + 1) h1).cH HV.out
  rw [HH.out] at g1
  clear S h0 h1 h2
  go_enter Tryz.func48, Tryz.ntmps48
  go_wp2
  obtain ⟨w1, hw1⟩ : ∃ w1, w.alloc (.cells #[.int .i64 x1, .int .i64 x2] 54) = w1 := ⟨_, rfl⟩
  rw [hw1] at S1 a0 a1 az b0 b1 bz g1 ⊢
  clear hw1
  have S4 := Lib.hid (S1.out.alrw #[.int .i64 x1, .int .i64 x2] 54 2 1 w1.heap.size rfl (by decide) rfl).drew
  obtain ⟨q', c', w7, hrun, S'⟩ := S4.out.appendedS (j2 + 2) 52 52 54 i0 _ 2 16 Tryz.underlying52 hi0 hz0 hz1 hz2 rfl (by omega) hp row.length hc (encE row) H2.out (some ⟨w1.heap.size, 0, none⟩) 1 1 (encE [(x1, x2)]) (S4.out.rdx 0 rfl) (one_encE _) (by omega) (by omega) Nat.one_pos
  have hb7 := two_set (p0 := Pc.own 54 2 (some ⟨w1.heap.size, 0, none⟩) 1 1 [.int .i64 x1, .int .i64 x2]) (p1 := Pc.blk w.heap.size 54 #[.int .i64 x1, .int .i64 x2]) (a := Pc.ownS 54 2 q' (row.length + 1) c' (encE row ++ encE [(x1, x2)]) hp row.length (encE row)) (fun e => HNE0.out e.symm) H0.out
  have hi7 := two_set (p0 := Pc.own 54 2 (some ⟨w1.heap.size, 0, none⟩) 1 1 [.int .i64 x1, .int .i64 x2]) (p1 := Pc.blk w.heap.size 54 #[.int .i64 x1, .int .i64 x2]) (a := Pc.ownS 54 2 q' (row.length + 1) c' (encE row ++ encE [(x1, x2)]) hp row.length (encE row)) (fun e => HNE.out e.symm) H1.out
  have kz := (S'.blk 1 rfl).cell 0
  have ka1 := (S'.blk 1 rfl).cell 1
  have kb0 := (S'.blk (j0 + 2) hb7).cell 0
  have kb1 := (S'.blk (j0 + 2) hb7).cell 1
  have kfz := own_frozen (S'.own (j1 + 2) hi7) (by have := HV.out; omega) v
  have kg1 := (S'.rdx (j1 + 2) hi7).cH HV.out
  rw [HH.out] at kg1
  have HI7 := Lib.hid hi7
  have T := S'.setRow (j1 + 2) HI7.out v (by have := HV.out; omega) (.slice q' (row.length + 1) c')
  rw [encH_set] at T
  have hb8 := (List.getElem?_set_ne (a := Pc.own 52 1 pI n cI (encH (hs.set v ⟨q', row.length + 1, c'⟩))) (show j1 + 2 ≠ j0 + 2 by have := HNE1.out; omega)).trans hb7
  have ta0 := (T.blk 1 rfl).cell 0
  have ta1 := (T.blk 1 rfl).cell 1
  have tb0 := (T.blk (j0 + 2) hb8).cell 0
  have tb1 := (T.blk (j0 + 2) hb8).cell 1
  have g4 := (S4.out.rdx (j1 + 2) H1.out).cH HV.out
  rw [HH.out] at g4
  have TF := Lib.hid T
  clear S' hb7 hb8 hi7 T HNE HNE0 HNE1 H0 H1 H2 HI7 S4
  simp at kz ka1 kb0 kb1 ta0 ta1 tb0 tb1 a0 a1 b0 b1
  have gb := World.block_lt_of_cell? w1 _ g1
  simp only at kg1 g4
  refine wp_region_held_drew (S := fun w' => w'.cell? ⟨w.heap.size, 0, none⟩ = some (.int .i64 x1) ∧ w'.cell? ⟨w.heap.size, 1, none⟩ = some (.int .i64 x2) ∧ w'.cell? ⟨gl, 0, none⟩ = some (.slice pO nO cO) ∧ w'.cell? ⟨gl, 1, none⟩ = some (.slice pI n cI)) (by kernel_rfl) (by (try dsimp only); go_keep) (fun hHeld => ?_)
  refine wpAnyH_take (i := 0) (v := .pointer (some ⟨gl, 1, none⟩)) rfl (by kernel_rfl) (by kernel_rfl) (by kernel_rfl) (fun _ _ _ h => h) (Or.inl ⟨by rfl, fun W hSw => by obtain ⟨h1, h2, h3, h4⟩ := hSw; go_simp⟩) hHeld ?_
  refine wpAnyH_take (i := 1) (v := .slice pI n cI) rfl (by kernel_rfl) (by kernel_rfl) (by kernel_rfl) (fun _ _ _ h => h) (Or.inl ⟨by rfl, fun W hSw => by obtain ⟨h1, h2, h3, h4⟩ := hSw; go_simp⟩) hHeld ?_
  refine wpAnyH_take (i := 2) (v := .int .i64 v) rfl (by kernel_rfl) (by kernel_rfl) (by kernel_rfl) (fun _ _ _ h => h) (Or.inl ⟨by rfl, fun W hSw => by obtain ⟨h1, h2, h3, h4⟩ := hSw; go_simp⟩) hHeld ?_
  refine wpAnyH_take (i := 3) (v := .pointer (some ⟨gl, 1, none⟩)) rfl (by kernel_rfl) (by kernel_rfl) (by kernel_rfl) (fun _ _ _ h => h) (Or.inl ⟨by rfl, fun W hSw => by obtain ⟨h1, h2, h3, h4⟩ := hSw; go_simp⟩) hHeld ?_
  refine wpAnyH_take (i := 4) (v := .slice pI n cI) rfl (by kernel_rfl) (by kernel_rfl) (by kernel_rfl) (fun _ _ _ h => h) (Or.inl ⟨by rfl, fun W hSw => by obtain ⟨h1, h2, h3, h4⟩ := hSw; go_simp⟩) hHeld ?_
  refine wpAnyH_take (i := 5) (v := .int .i64 v) rfl (by kernel_rfl) (by kernel_rfl) (by kernel_rfl) (fun _ _ _ h => h) (Or.inl ⟨by rfl, fun W hSw => by obtain ⟨h1, h2, h3, h4⟩ := hSw; go_simp⟩) hHeld ?_
  refine wpAnyH_take (i := 6) (v := .pointer (some (adr pI v))) rfl (by kernel_rfl) (by kernel_rfl) (by kernel_rfl) (fun _ _ _ h => h) (Or.inl ⟨by rfl, fun W hSw => by obtain ⟨h1, h2, h3, h4⟩ := hSw; go_simp⟩) hHeld ?_
  refine wpAnyH_take (i := 8) (v := .agg #[.int .i64 x1, .int .i64 x2]) rfl (by kernel_rfl) (by kernel_rfl) (by kernel_rfl) (fun _ _ _ h => h) (Or.inl ⟨by rfl, fun W hSw => by obtain ⟨h1, h2, h3, h4⟩ := hSw; go_simp⟩) hHeld ?_
  refine wpAnyH_ready (rs := [7, 9]) (by kernel_rfl) (by simp) (AllReadyH.cons rfl (fun K hK => ?_) (AllReadyH.cons rfl (fun K hK => ?_) AllReadyH.nil))
  · go_simp
    refine hK.out _ _ hHeld (fun hHeld => ?_)
    clear hK
    refine wpAnyH_ready (rs := [9]) (by kernel_rfl) (by simp) (AllReadyH.cons rfl (fun K hK => ?_) AllReadyH.nil)
    go_simp
    refine hK.out _ _ (by ((try dsimp only); go_keep)) (fun hHeld => ?_)
    clear hK
    refine wpAnyH_ready (rs := [10]) (by kernel_rfl) (by simp) (AllReadyH.cons rfl (fun K hK => ?_) AllReadyH.nil)
    rw [if_pos (by rfl)]
    refine operwp_append (.tmp 12) (.tmp 14) 52 (by rfl) (by rfl) (by rfl) hrun ?_
    refine hK.out _ _ ⟨kz, ka1, kb0, kb1⟩ (fun hHeld => ?_)
    clear hK
    refine wpAnyH_ready (rs := [11]) (by kernel_rfl) (by simp) (AllReadyH.cons rfl (fun K hK => ?_) AllReadyH.nil)
    go_simp
    refine hK.out _ _ (by (exact ⟨kz, ka1, kb0, kb1⟩)) (fun hHeld => ?_)
    clear hK
    refine wpAnyH_ready (rs := [12]) (by kernel_rfl) (by simp) (AllReadyH.cons rfl (fun K hK => ?_) AllReadyH.nil)
    go_simp
    refine hK.out _ _ (by (exact ⟨ta0, ta1, tb0, tb1⟩)) (fun hHeld => ?_)
    clear hK
    refine wpAnyH_done (by kernel_rfl) ?_ _
    go_end0
    refine ⟨rfl, q', c', ?_⟩
    rw [encE_append]
    exact TF.out.sub ((List.sublist_cons_self _ _).trans (List.sublist_cons_self _ _))
  · go_simp
    refine hK.out _ _ (by (try dsimp only); go_keep) (fun hHeld => ?_)
    clear hK
    refine wpAnyH_ready (rs := [7]) (by kernel_rfl) (by simp) (AllReadyH.cons rfl (fun K hK => ?_) AllReadyH.nil)
    go_simp
    refine hK.out _ _ (by (exact hHeld)) (fun hHeld => ?_)
    clear hK
    refine wpAnyH_ready (rs := [10]) (by kernel_rfl) (by simp) (AllReadyH.cons rfl (fun K hK => ?_) AllReadyH.nil)
    rw [if_pos (by rfl)]
    refine operwp_append (.tmp 12) (.tmp 14) 52 (by rfl) (by rfl) (by rfl) hrun ?_
    refine hK.out _ _ ⟨kz, ka1, kb0, kb1⟩ (fun hHeld => ?_)
    clear hK
    refine wpAnyH_ready (rs := [11]) (by kernel_rfl) (by simp) (AllReadyH.cons rfl (fun K hK => ?_) AllReadyH.nil)
    go_simp
    refine hK.out _ _ (by (exact ⟨kz, ka1, kb0, kb1⟩)) (fun hHeld => ?_)
    clear hK
    refine wpAnyH_ready (rs := [12]) (by kernel_rfl) (by simp) (AllReadyH.cons rfl (fun K hK => ?_) AllReadyH.nil)
    go_simp
    refine hK.out _ _ (by (exact ⟨ta0, ta1, tb0, tb1⟩)) (fun hHeld => ?_)
    clear hK
    refine wpAnyH_done (by kernel_rfl) ?_ _
    go_end0
    refine ⟨rfl, q', c', ?_⟩
    rw [encE_append]
    exact TF.out.sub ((List.sublist_cons_self _ _).trans (List.sublist_cons_self _ _))
set_option maxRecDepth 100000 in
set_option maxHeartbeats 4000000 in
theorem AddO (gl : Nat) (pO : Option Addr) (nO cO : Nat) (pI : Option Addr) (n cI : Nat) (hs : List Hd) (row : List (Int × Int)) (v : Nat) (x : Int × Int) (w w0 : World) (Γ : List Pc) (j0 j1 j2 : Nat) (S : Sep w0 w Γ)
    (h0 : Γ[j0]? = some (.blk gl 42 #[.slice pI n cI, .slice pO nO cO])) (h1 : Γ[j1]? = some (.own 52 1 pI n cI (encH hs))) (h2 : Γ[j2]? = some (.ownS 54 2 (nth hs v).p (nth hs v).n (nth hs v).c (encE row) (nth hs v).p (nth hs v).n (encE row))) (hne : j1 ≠ j2) (hne0 : j0 ≠ j2) (hne1 : j0 ≠ j1) (hv : v < n) (hn : n ≤ 1000) (hr : row.length ≤ 1000) :
    Calls Tryz.prog 50 #[.int .i64 v, .agg #[.int .i64 x.1, .int .i64 x.2], .pointer (some ⟨gl, 0, none⟩)] w fun e w' => e = .returned (.tuple #[]) ∧ ∃ p' c', Sep w0 w' ((Γ.set j2 (.ownS 54 2 p' (row.length + 1) c' (encE (row ++ [x])) (nth hs v).p row.length (encE row))).set j1 (.own 52 1 pI n cI (encH (hs.set v ⟨p', row.length + 1, c'⟩)))) := by
  obtain ⟨i0, hi0, hz0, hz1, hz2⟩ := info_parts infHit
  have hR := Rd.of_own (S.ownS j2 h2).1 (own_sm (S.ownS j2 h2).1)
  have hrl : (nth hs v).n = row.length := hR.nE
  have p1 := (S.rdx j1 h1).ptr
  have d1 : (0:Int) ≤ v := by omega
  have d2 : (v:Int) < n := by omega
  have HNE := Lib.hid hne
  have HNE0 := Lib.hid hne0
  have HNE1 := Lib.hid hne1
  have HV := Lib.hid hv
  obtain ⟨h, hh⟩ : ∃ h, nth hs v = h := ⟨_, rfl⟩
  rw [hh] at h2 hrl ⊢
  have HH := Lib.hid hh
  clear hh hR hne hv hne0 hne1
  obtain ⟨hp, hn', hc⟩ := h
  obtain ⟨x1, x2⟩ := x
  simp only at hrl h2
  subst hrl
  simp only
  have H0 := Lib.hid h0
  have H1 := Lib.hid h1
  have H2 := Lib.hid h2
  have S1 := Lib.hid (S.al #[.int .i64 x1, .int .i64 x2] 54 w.heap.size rfl)
  have a0 := (S1.out.blk 0 rfl).cell 0
  have a1 := (S1.out.blk 0 rfl).cell 1
  have az := (S1.out.blk 0 rfl).lt
  have b0 := (S1.out.blk (j0 + 1) h0).cell 0
  have b1 := (S1.out.blk (j0 + 1) h0).cell 1
  have bz := (S1.out.blk (j0 + 1) h0).lt
  have g1 := (S1.out.rdx (j1 + 1) h1).cH HV.out
  rw [HH.out] at g1
  clear S h0 h1 h2
  go_enter Tryz.func50, Tryz.ntmps50
  go_wp2
  obtain ⟨w1, hw1⟩ : ∃ w1, w.alloc (.cells #[.int .i64 x1, .int .i64 x2] 54) = w1 := ⟨_, rfl⟩
  rw [hw1] at S1 a0 a1 az b0 b1 bz g1 ⊢
  clear hw1
  have S4 := Lib.hid (S1.out.alrw #[.int .i64 x1, .int .i64 x2] 54 2 1 w1.heap.size rfl (by decide) rfl).drew
  obtain ⟨q', c', w7, hrun, S'⟩ := S4.out.appendedS (j2 + 2) 52 52 54 i0 _ 2 16 Tryz.underlying52 hi0 hz0 hz1 hz2 rfl (by omega) hp row.length hc (encE row) H2.out (some ⟨w1.heap.size, 0, none⟩) 1 1 (encE [(x1, x2)]) (S4.out.rdx 0 rfl) (one_encE _) (by omega) (by omega) Nat.one_pos
  have hb7 := two_set (p0 := Pc.own 54 2 (some ⟨w1.heap.size, 0, none⟩) 1 1 [.int .i64 x1, .int .i64 x2]) (p1 := Pc.blk w.heap.size 54 #[.int .i64 x1, .int .i64 x2]) (a := Pc.ownS 54 2 q' (row.length + 1) c' (encE row ++ encE [(x1, x2)]) hp row.length (encE row)) (fun e => HNE0.out e.symm) H0.out
  have hi7 := two_set (p0 := Pc.own 54 2 (some ⟨w1.heap.size, 0, none⟩) 1 1 [.int .i64 x1, .int .i64 x2]) (p1 := Pc.blk w.heap.size 54 #[.int .i64 x1, .int .i64 x2]) (a := Pc.ownS 54 2 q' (row.length + 1) c' (encE row ++ encE [(x1, x2)]) hp row.length (encE row)) (fun e => HNE.out e.symm) H1.out
  have kz := (S'.blk 1 rfl).cell 0
  have ka1 := (S'.blk 1 rfl).cell 1
  have kb0 := (S'.blk (j0 + 2) hb7).cell 0
  have kb1 := (S'.blk (j0 + 2) hb7).cell 1
  have kfz := own_frozen (S'.own (j1 + 2) hi7) (by have := HV.out; omega) v
  have kg1 := (S'.rdx (j1 + 2) hi7).cH HV.out
  rw [HH.out] at kg1
  have HI7 := Lib.hid hi7
  have T := S'.setRow (j1 + 2) HI7.out v (by have := HV.out; omega) (.slice q' (row.length + 1) c')
  rw [encH_set] at T
  have hb8 := (List.getElem?_set_ne (a := Pc.own 52 1 pI n cI (encH (hs.set v ⟨q', row.length + 1, c'⟩))) (show j1 + 2 ≠ j0 + 2 by have := HNE1.out; omega)).trans hb7
  have ta0 := (T.blk 1 rfl).cell 0
  have ta1 := (T.blk 1 rfl).cell 1
  have tb0 := (T.blk (j0 + 2) hb8).cell 0
  have tb1 := (T.blk (j0 + 2) hb8).cell 1
  have g4 := (S4.out.rdx (j1 + 2) H1.out).cH HV.out
  rw [HH.out] at g4
  have TF := Lib.hid T
  clear S' hb7 hb8 hi7 T HNE HNE0 HNE1 H0 H1 H2 HI7 S4
  simp at kz ka1 kb0 kb1 ta0 ta1 tb0 tb1 a0 a1 b0 b1
  have gb := World.block_lt_of_cell? w1 _ g1
  simp only at kg1 g4
  refine wp_region_held_drew (S := fun w' => w'.cell? ⟨w.heap.size, 0, none⟩ = some (.int .i64 x1) ∧ w'.cell? ⟨w.heap.size, 1, none⟩ = some (.int .i64 x2) ∧ w'.cell? ⟨gl, 0, none⟩ = some (.slice pI n cI) ∧ w'.cell? ⟨gl, 1, none⟩ = some (.slice pO nO cO)) (by kernel_rfl) (by (try dsimp only); go_keep) (fun hHeld => ?_)
  refine wpAnyH_take (i := 0) (v := .pointer (some ⟨gl, 0, none⟩)) rfl (by kernel_rfl) (by kernel_rfl) (by kernel_rfl) (fun _ _ _ h => h) (Or.inl ⟨by rfl, fun W hSw => by obtain ⟨h1, h2, h3, h4⟩ := hSw; go_simp⟩) hHeld ?_
  refine wpAnyH_take (i := 1) (v := .slice pI n cI) rfl (by kernel_rfl) (by kernel_rfl) (by kernel_rfl) (fun _ _ _ h => h) (Or.inl ⟨by rfl, fun W hSw => by obtain ⟨h1, h2, h3, h4⟩ := hSw; go_simp⟩) hHeld ?_
  refine wpAnyH_take (i := 2) (v := .int .i64 v) rfl (by kernel_rfl) (by kernel_rfl) (by kernel_rfl) (fun _ _ _ h => h) (Or.inl ⟨by rfl, fun W hSw => by obtain ⟨h1, h2, h3, h4⟩ := hSw; go_simp⟩) hHeld ?_
  refine wpAnyH_take (i := 3) (v := .pointer (some ⟨gl, 0, none⟩)) rfl (by kernel_rfl) (by kernel_rfl) (by kernel_rfl) (fun _ _ _ h => h) (Or.inl ⟨by rfl, fun W hSw => by obtain ⟨h1, h2, h3, h4⟩ := hSw; go_simp⟩) hHeld ?_
  refine wpAnyH_take (i := 4) (v := .slice pI n cI) rfl (by kernel_rfl) (by kernel_rfl) (by kernel_rfl) (fun _ _ _ h => h) (Or.inl ⟨by rfl, fun W hSw => by obtain ⟨h1, h2, h3, h4⟩ := hSw; go_simp⟩) hHeld ?_
  refine wpAnyH_take (i := 5) (v := .int .i64 v) rfl (by kernel_rfl) (by kernel_rfl) (by kernel_rfl) (fun _ _ _ h => h) (Or.inl ⟨by rfl, fun W hSw => by obtain ⟨h1, h2, h3, h4⟩ := hSw; go_simp⟩) hHeld ?_
  refine wpAnyH_take (i := 6) (v := .pointer (some (adr pI v))) rfl (by kernel_rfl) (by kernel_rfl) (by kernel_rfl) (fun _ _ _ h => h) (Or.inl ⟨by rfl, fun W hSw => by obtain ⟨h1, h2, h3, h4⟩ := hSw; go_simp⟩) hHeld ?_
  refine wpAnyH_take (i := 8) (v := .agg #[.int .i64 x1, .int .i64 x2]) rfl (by kernel_rfl) (by kernel_rfl) (by kernel_rfl) (fun _ _ _ h => h) (Or.inl ⟨by rfl, fun W hSw => by obtain ⟨h1, h2, h3, h4⟩ := hSw; go_simp⟩) hHeld ?_
  refine wpAnyH_ready (rs := [7, 9]) (by kernel_rfl) (by simp) (AllReadyH.cons rfl (fun K hK => ?_) (AllReadyH.cons rfl (fun K hK => ?_) AllReadyH.nil))
  · go_simp
    refine hK.out _ _ hHeld (fun hHeld => ?_)
    clear hK
    refine wpAnyH_ready (rs := [9]) (by kernel_rfl) (by simp) (AllReadyH.cons rfl (fun K hK => ?_) AllReadyH.nil)
    go_simp
    refine hK.out _ _ (by ((try dsimp only); go_keep)) (fun hHeld => ?_)
    clear hK
    refine wpAnyH_ready (rs := [10]) (by kernel_rfl) (by simp) (AllReadyH.cons rfl (fun K hK => ?_) AllReadyH.nil)
    rw [if_pos (by rfl)]
    refine operwp_append (.tmp 12) (.tmp 14) 52 (by rfl) (by rfl) (by rfl) hrun ?_
    refine hK.out _ _ ⟨kz, ka1, kb0, kb1⟩ (fun hHeld => ?_)
    clear hK
    refine wpAnyH_ready (rs := [11]) (by kernel_rfl) (by simp) (AllReadyH.cons rfl (fun K hK => ?_) AllReadyH.nil)
    go_simp
    refine hK.out _ _ (by (exact ⟨kz, ka1, kb0, kb1⟩)) (fun hHeld => ?_)
    clear hK
    refine wpAnyH_ready (rs := [12]) (by kernel_rfl) (by simp) (AllReadyH.cons rfl (fun K hK => ?_) AllReadyH.nil)
    go_simp
    refine hK.out _ _ (by (exact ⟨ta0, ta1, tb0, tb1⟩)) (fun hHeld => ?_)
    clear hK
    refine wpAnyH_done (by kernel_rfl) ?_ _
    go_end0
    refine ⟨rfl, q', c', ?_⟩
    rw [encE_append]
    exact TF.out.sub ((List.sublist_cons_self _ _).trans (List.sublist_cons_self _ _))
  · go_simp
    refine hK.out _ _ (by (try dsimp only); go_keep) (fun hHeld => ?_)
    clear hK
    refine wpAnyH_ready (rs := [7]) (by kernel_rfl) (by simp) (AllReadyH.cons rfl (fun K hK => ?_) AllReadyH.nil)
    go_simp
    refine hK.out _ _ (by (exact hHeld)) (fun hHeld => ?_)
    clear hK
    refine wpAnyH_ready (rs := [10]) (by kernel_rfl) (by simp) (AllReadyH.cons rfl (fun K hK => ?_) AllReadyH.nil)
    rw [if_pos (by rfl)]
    refine operwp_append (.tmp 12) (.tmp 14) 52 (by rfl) (by rfl) (by rfl) hrun ?_
    refine hK.out _ _ ⟨kz, ka1, kb0, kb1⟩ (fun hHeld => ?_)
    clear hK
    refine wpAnyH_ready (rs := [11]) (by kernel_rfl) (by simp) (AllReadyH.cons rfl (fun K hK => ?_) AllReadyH.nil)
    go_simp
    refine hK.out _ _ (by (exact ⟨kz, ka1, kb0, kb1⟩)) (fun hHeld => ?_)
    clear hK
    refine wpAnyH_ready (rs := [12]) (by kernel_rfl) (by simp) (AllReadyH.cons rfl (fun K hK => ?_) AllReadyH.nil)
    go_simp
    refine hK.out _ _ (by (exact ⟨ta0, ta1, tb0, tb1⟩)) (fun hHeld => ?_)
    clear hK
    refine wpAnyH_done (by kernel_rfl) ?_ _
    go_end0
    refine ⟨rfl, q', c', ?_⟩
    rw [encE_append]
    exact TF.out.sub ((List.sublist_cons_self _ _).trans (List.sublist_cons_self _ _))
end Go.Proofs.YthlmcfbadhidbaaGreat
/- The program's labels (chapter 12): what hubs that stand ahead tell of a place. -/
namespace Go.Proofs.YthlmcfbadhidbaaGreat
open Go Go.RowKit
structure NearQ (C : Nat) (x : Int) (b : Bool) (i : Nat) (v : Value) (_ : World) : Prop where
  a : i = C → v = .tuple #[.int .i64 x, .bool b]
  b' : i = C + 1 → v = .tuple #[.int .i64 x, .bool b]
  c1 : i = C + 2 → v = .int .i64 x
  c2 : i = C + 3 → v = .bool b
  d1 : i = C + 4 → v = .int .i64 x
  d2 : i = C + 5 → v = .bool b
theorem NearQ.of {C : Nat} {a : Int} {b : Bool} {i : Nat} {v : Value} {w : World} (h : (i = C ∨ i = C + 1) ∧ v = .tuple #[.int .i64 a, .bool b] ∨ (i = C + 2 ∨ i = C + 4) ∧ v = .int .i64 a ∨ (i = C + 3 ∨ i = C + 5) ∧ v = .bool b) : NearQ C a b i v w := by
  rcases h with ⟨h1, h2⟩ | ⟨h1, h2⟩ | ⟨h1, h2⟩
  · exact ⟨fun _ => h2, fun _ => h2, fun e => by omega, fun e => by omega, fun e => by omega, fun e => by omega⟩
  · exact ⟨fun e => by omega, fun e => by omega, fun _ => h2, fun e => by omega, fun _ => h2, fun e => by omega⟩
  · exact ⟨fun e => by omega, fun e => by omega, fun e => by omega, fun _ => h2, fun e => by omega, fun _ => h2⟩
set_option maxRecDepth 100000 in
set_option maxHeartbeats 4000000 in
theorem NearI (gs gl : Nat) (po : Option Addr) (no co : Nat) (OUT : List (Int × Int)) (pO : Option Addr) (nO cO : Nat) (pI : Option Addr) (n cI : Nat) (hs : List Hd) (row : List (Int × Int)) (v : Nat) (d : Int) (w : World)
    (hB : Blk w gs 52 #[.slice po no co]) (hR : Rd w 2 po no (encE OUT)) (hL : Blk w gl 42 #[.slice pO nO cO, .slice pI n cI]) (hI : Rd w 1 pI n (encH hs)) (hr : Rd w 2 (nth hs v).p (nth hs v).n (encE row)) (hv : v < n) (b1 : SmH OUT) (b2 : SmH row) :
    Calls Tryz.prog 52 #[.int .i64 v, .int .i64 d, .pointer (some ⟨gs, 0, none⟩), .pointer (some ⟨gl, 0, none⟩)] w fun e w' => e = .returned (.bool (nearB (leastV OUT row) d)) ∧ Ext w w' := by
  have s0 := hB.cell 0
  have sz := hB.lt
  have l0 := hL.cell 0
  have l1 := hL.cell 1
  have lz := hL.lt
  have g1 := hI.cH hv
  have p1 := hI.ptr
  have d1 : (0:Int) ≤ v := by omega
  have d2 : (v:Int) < n := by omega
  have HL := Lib.hid (fun W (h : Ext w W) => LeastG po no co OUT (nth hs v).p (nth hs v).n (nth hs v).c row W (hR.ext h) (hr.ext h) b1 b2)
  obtain ⟨hh, hh0⟩ : ∃ hh, nth hs v = hh := ⟨_, rfl⟩
  rw [hh0] at g1 HL
  unfold nearB
  obtain ⟨r, hr0⟩ : ∃ r, leastV OUT row = r := ⟨_, rfl⟩
  rw [hr0] at HL ⊢
  obtain ⟨a, b⟩ := r
  simp only at HL ⊢
  clear hB hR hL hI hr hv b1 b2 hh0 hr0
  obtain ⟨hp, hn, hc⟩ := hh
  simp only at g1 HL
  go_enter Tryz.func52, Tryz.ntmps52
  go_wp2
  have u0 := fun x : ExtOf w => x.ext.cell s0
  have u1 := fun x : ExtOf w => x.ext.cell l0
  have u2 := fun x : ExtOf w => x.ext.cell l1
  have u3 := fun x : ExtOf w => x.ext.cell g1
  refine wp_region_mix [true, true, true, true, true, true, false, false, false, false, false, false] (NearQ 6 a b) (by kernel_rfl) (by kernel_rfl) (by kernel_rfl) (fun _ _ _ _ _ h => ⟨h.a, h.b', h.c1, h.c2, h.d1, h.d2⟩) ?_
  simp only [nfM]
  repeat (go_big_quiet_step ((fail)))
  refine wpQuiet_nil ⟨⟨fun vs W1 hE hd => ?_, fun vs W1 hE hd => ?_, fun vs W1 hE hd => ?_, fun vs W1 hE hd => ?_, fun vs W1 hE hd => ?_, fun vs W1 hE hd => ?_, trivial⟩, fun vs W1 hE hkn => ?_⟩
  · (simp [putM, go_sem]; exact (HL.out _ hE).mono fun e w' ⟨h1, h2⟩ => ⟨_, h1, NearQ.of (by simp), h2⟩)
  · (have k1 := NearQ.a (hd 6 (by decide +kernel) rfl) rfl; simp [putM, execOp, go_sem, k1]; exact ⟨NearQ.of (by simp), Below.refl _ _⟩)
  · (have k1 := NearQ.b' (hd 7 (by decide +kernel) rfl) rfl; simp [putM, execOp, go_sem, k1]; exact ⟨NearQ.of (by simp), Below.refl _ _⟩)
  · (have k1 := NearQ.b' (hd 7 (by decide +kernel) rfl) rfl; simp [putM, execOp, go_sem, k1]; exact ⟨NearQ.of (by simp), Below.refl _ _⟩)
  · (have k1 := NearQ.c1 (hd 8 (by decide +kernel) rfl) rfl; simp [putM, execOp, go_sem, k1]; exact ⟨NearQ.of (by simp), Below.refl _ _⟩)
  · (have k1 := NearQ.c2 (hd 9 (by decide +kernel) rfl) rfl; simp [putM, execOp, go_sem, k1]; exact ⟨NearQ.of (by simp), Below.refl _ _⟩)
  simp only [knowM] at hkn
  have k1 := NearQ.d1 hkn.2.2.2.2.1 rfl
  have k2 := NearQ.d2 hkn.2.2.2.2.2.1 rfl
  simp only [putM, k1, k2, List.length_cons, List.length_nil, Nat.zero_add, Nat.reduceAdd, List.drop_succ_cons, List.drop_zero]
  try simp [Act.put]
  clear u0 u1 u2 u3 k1 k2 hkn s0 sz l0 l1 lz g1
  cases b with
  | false =>
    go_wp2
    go_ret
    exact ⟨rfl, hE⟩
  | true =>
    by_cases hd : a ≤ d
    · have f1 : decide (a ≤ d) = true := by simpa using hd
      clear hd
      go_wp2
      go_ret
      exact ⟨by rw [f1]; rfl, hE⟩
    · have f1 : decide (a ≤ d) = false := by simpa using hd
      clear hd
      go_wp2
      go_ret
      exact ⟨by rw [f1]; rfl, hE⟩
set_option maxRecDepth 100000 in
set_option maxHeartbeats 4000000 in
theorem NearO (gs gl : Nat) (po : Option Addr) (no co : Nat) (OUT : List (Int × Int)) (pO : Option Addr) (nO cO : Nat) (pI : Option Addr) (n cI : Nat) (hs : List Hd) (row : List (Int × Int)) (v : Nat) (d : Int) (w : World)
    (hB : Blk w gs 52 #[.slice po no co]) (hR : Rd w 2 po no (encE OUT)) (hL : Blk w gl 42 #[.slice pI n cI, .slice pO nO cO]) (hI : Rd w 1 pI n (encH hs)) (hr : Rd w 2 (nth hs v).p (nth hs v).n (encE row)) (hv : v < n) (b1 : SmH OUT) (b2 : SmH row) :
    Calls Tryz.prog 54 #[.int .i64 v, .int .i64 d, .pointer (some ⟨gl, 0, none⟩), .pointer (some ⟨gs, 0, none⟩)] w fun e w' => e = .returned (.bool (nearB (leastV row OUT) d)) ∧ Ext w w' := by
  have s0 := hB.cell 0
  have sz := hB.lt
  have l0 := hL.cell 0
  have l1 := hL.cell 1
  have lz := hL.lt
  have g1 := hI.cH hv
  have p1 := hI.ptr
  have d1 : (0:Int) ≤ v := by omega
  have d2 : (v:Int) < n := by omega
  have HL := Lib.hid (fun W (h : Ext w W) => LeastG (nth hs v).p (nth hs v).n (nth hs v).c row po no co OUT W (hr.ext h) (hR.ext h) b2 b1)
  obtain ⟨hh, hh0⟩ : ∃ hh, nth hs v = hh := ⟨_, rfl⟩
  rw [hh0] at g1 HL
  unfold nearB
  obtain ⟨r, hr0⟩ : ∃ r, leastV row OUT = r := ⟨_, rfl⟩
  rw [hr0] at HL ⊢
  obtain ⟨a, b⟩ := r
  simp only at HL ⊢
  clear hB hR hL hI hr hv b1 b2 hh0 hr0
  obtain ⟨hp, hn, hc⟩ := hh
  simp only at g1 HL
  go_enter Tryz.func54, Tryz.ntmps54
  go_wp2
  have u0 := fun x : ExtOf w => x.ext.cell s0
  have u1 := fun x : ExtOf w => x.ext.cell l0
  have u2 := fun x : ExtOf w => x.ext.cell l1
  have u3 := fun x : ExtOf w => x.ext.cell g1
  refine wp_region_mix [true, true, true, true, true, true, false, false, false, false, false, false] (NearQ 6 a b) (by kernel_rfl) (by kernel_rfl) (by kernel_rfl) (fun _ _ _ _ _ h => ⟨h.a, h.b', h.c1, h.c2, h.d1, h.d2⟩) ?_
  simp only [nfM]
  repeat (go_big_quiet_step ((fail)))
  refine wpQuiet_nil ⟨⟨fun vs W1 hE hd => ?_, fun vs W1 hE hd => ?_, fun vs W1 hE hd => ?_, fun vs W1 hE hd => ?_, fun vs W1 hE hd => ?_, fun vs W1 hE hd => ?_, trivial⟩, fun vs W1 hE hkn => ?_⟩
  · (simp [putM, go_sem]; exact (HL.out _ hE).mono fun e w' ⟨h1, h2⟩ => ⟨_, h1, NearQ.of (by simp), h2⟩)
  · (have k1 := NearQ.a (hd 6 (by decide +kernel) rfl) rfl; simp [putM, execOp, go_sem, k1]; exact ⟨NearQ.of (by simp), Below.refl _ _⟩)
  · (have k1 := NearQ.b' (hd 7 (by decide +kernel) rfl) rfl; simp [putM, execOp, go_sem, k1]; exact ⟨NearQ.of (by simp), Below.refl _ _⟩)
  · (have k1 := NearQ.b' (hd 7 (by decide +kernel) rfl) rfl; simp [putM, execOp, go_sem, k1]; exact ⟨NearQ.of (by simp), Below.refl _ _⟩)
  · (have k1 := NearQ.c1 (hd 8 (by decide +kernel) rfl) rfl; simp [putM, execOp, go_sem, k1]; exact ⟨NearQ.of (by simp), Below.refl _ _⟩)
  · (have k1 := NearQ.c2 (hd 9 (by decide +kernel) rfl) rfl; simp [putM, execOp, go_sem, k1]; exact ⟨NearQ.of (by simp), Below.refl _ _⟩)
  simp only [knowM] at hkn
  have k1 := NearQ.d1 hkn.2.2.2.2.1 rfl
  have k2 := NearQ.d2 hkn.2.2.2.2.2.1 rfl
  simp only [putM, k1, k2, List.length_cons, List.length_nil, Nat.zero_add, Nat.reduceAdd, List.drop_succ_cons, List.drop_zero]
  try simp [Act.put]
  clear u0 u1 u2 u3 k1 k2 hkn s0 sz l0 l1 lz g1
  cases b with
  | false =>
    go_wp2
    go_ret
    exact ⟨rfl, hE⟩
  | true =>
    by_cases hd : a ≤ d
    · have f1 : decide (a ≤ d) = true := by simpa using hd
      clear hd
      go_wp2
      go_ret
      exact ⟨by rw [f1]; rfl, hE⟩
    · have f1 : decide (a ≤ d) = false := by simpa using hd
      clear hd
      go_wp2
      go_ret
      exact ⟨by rw [f1]; rfl, hE⟩
end Go.Proofs.YthlmcfbadhidbaaGreat
/- The program's orders (chapter 11): Is, Places. -/
namespace Go.Proofs.YthlmcfbadhidbaaGreat
open Go Go.RowKit
theorem infBl : ((Tryz.prog).info? 4).map (fun i => (i.zero, i.size, i.bytes)) = some (some (.bool false), 1, 1) := by kernel_rfl
theorem madeBl (n : Nat) : (madeCells (Value.bool false).cells (n * 1)).toList = List.replicate n (.bool false) := by
  apply List.ext_getElem
  · simp [madeCells]
  · intro i h1 h2
    simp [madeCells, Value.cells, Nat.mod_one]
theorem madeIn (n : Nat) : (madeCells (Value.int .i64 0).cells (n * 1)).toList = encI (List.replicate n 0) := by
  apply List.ext_getElem
  · simp [madeCells, encI]
  · intro i h1 h2
    simp [madeCells, Value.cells, Nat.mod_one, encI]
theorem ord_out {l : List Int} {x : Int} (h : x ∈ l) (hx : x < 0 ∨ (l.length : Int) ≤ x) : ordB l = false := by
  cases hb : ordB l with
  | false => rfl
  | true => have := (ordB_iff.1 hb).2.2 x h; omega
theorem ord_dup {l : List Int} {k : Nat} (hk : k < l.length) (h : nth l k ∈ l.take k) : ordB l = false := by
  cases hb : ordB l with
  | false => rfl
  | true =>
    have hn := (ordB_iff.1 hb).2.1
    have e : l = l.take k ++ l.drop k := (List.take_append_drop k l).symm
    rw [e, List.nodup_append] at hn
    rw [nth_eq hk] at h
    exact absurd rfl (hn.2.2 _ h l[k] (by rw [List.drop_eq_getElem_cons hk]; exact List.mem_cons_self ..))
/-- what is known of the places of the first k -/
def OkT (l : List Int) (k m : Nat) : Prop := (l.take k).Nodup ∧ ∀ x ∈ l.take k, 0 ≤ x ∧ x < m
theorem okT_end {l : List Int} {m : Nat} (hm : m = l.length) (h : OkT l m m) : ordB l = true := by
  subst hm
  unfold OkT at h
  rw [List.take_length] at h
  exact ordB_iff.2 ⟨rfl, h.1, h.2⟩
theorem okT_step {l : List Int} {k m : Nat} (hk : k < l.length) (h : OkT l k m) (h1 : 0 ≤ nth l k ∧ nth l k < m) (h2 : nth l k ∉ l.take k) : OkT l (k + 1) m := by
  unfold OkT
  rw [take_succ_nth l k hk]
  refine ⟨?_, fun x hx => ?_⟩
  · rw [List.nodup_append]
    refine ⟨h.1, by simp, fun a ha b hb e => ?_⟩
    rw [List.mem_singleton] at hb; subst hb; subst e; exact h2 ha
  · rcases List.mem_append.1 hx with hx | hx
    · exact h.2 x hx
    · rw [List.mem_singleton] at hx; subst hx; exact h1
def thL (l : List Int) (k m : Nat) : List Value := (List.range m).map fun v : Nat => .bool (decide ((v : Int) ∈ l.take k))
theorem thL_0 (l : List Int) (m : Nat) : thL l 0 m = List.replicate m (.bool false) := by
  apply List.ext_getElem
  · simp [thL]
  · intro j h1 h2; simp [thL]
theorem thL_at {l : List Int} {k m b : Nat} (hb : b < m) : (thL l k m)[b]? = some (.bool (decide ((b : Int) ∈ l.take k))) := by simp [thL, hb]
theorem thL_set {l : List Int} {k m b : Nat} (hk : k < l.length) (hb : nth l k = b) : (thL l k m).set b (.bool true) = thL l (k + 1) m := by
  apply List.ext_getElem
  · simp [thL]
  · intro v h1 h2
    rw [List.getElem_set]
    simp only [thL, List.getElem_map, List.getElem_range]
    rw [take_succ_nth l k hk, hb]
    by_cases h : b = v
    · subst h; rw [if_pos rfl]; simp
    · rw [if_neg h]
      have : ((v : Int) ∈ l.take k ++ [(b : Int)]) ↔ (v : Int) ∈ l.take k := by
        rw [List.mem_append, List.mem_singleton]
        constructor
        · rintro (h3 | h3)
          · exact h3
          · omega
        · exact .inl
      simp only [this]
def isN (l : List Int) (n : Int) : Bool := decide ((l.length : Int) = n) && ordB l
set_option maxRecDepth 100000 in
set_option maxHeartbeats 4000000 in
theorem OrdIsG (p : Option Addr) (m c : Nat) (l : List Int) (n : Int) (w : World) (hl : Rd w 1 p m (encI l)) (hm : m ≤ 1000) :
    Calls Tryz.prog 23 #[.slice p m c, .int .i64 n] w fun e w' => e = .returned (.bool (isN l n)) ∧ Ext w w' := by
  obtain ⟨j0, hj0, hy0, hy1, hy2⟩ := info_parts infBl
  have L1 := Lib.hid hl.nI
  have p1 := hl.ptr
  unfold isN
  by_cases hn : (m:Int) = n
  · have hn2 : (l.length : Int) = n := by rw [← L1.out]; exact hn
    rw [decide_eq_true hn2, Bool.true_and]
    subst hn
    have c1 : ((m:Int) != (m:Int)) = false := by simp
    have HL := Lib.hid hl; clear hl
    clear hn2
    go_enter Tryz.func23, Tryz.ntmps23
    go_wp2_with (at_make; go_must (refine wpList_make_sep rfl _ _ _ rfl 4 j0 _ 1 Tryz.underlying79 hj0 hy0 hy1 (m:Int) m rfl rfl rfl (by rw [hy2]; omega) (by unfold maxLen; omega) (Sep.start w) ?_; intro w1 S'; rw [madeBl, ← thL_0 l m] at S'; have S1 := Lib.hid S'; clear S'))
    generalize (some ⟨w.heap.size, 0, none⟩ : Option Addr) = qs at *
    go_loopw [7, 16] (fun _ i wr => ∃ k : Nat, k ≤ m ∧ i = .int .i64 k ∧ Hid (OkT l k m) ∧ Sep w wr [.own 4 1 qs m m (thL l k m)]) (fun _ i _ => m - (intOf i).toNat)
    case atStart => exact ⟨0, Nat.zero_le _, rfl, ⟨by simp, by simp⟩, S1.out⟩
    case round =>
      clear S1
      obtain ⟨k, hk, rfl, ok, S⟩ := hrel
      by_cases hlt : k < m
      · have g1 := S.ext.cell (HL.out.cI hlt)
        have hkL : k < l.length := by rw [← L1.out]; exact hlt
        have d1 : (0:Int) ≤ k := by omega
        have d2 : (k:Int) < m := by omega
        have hmem := nth_mem hkL
        have hLm : (l.length : Int) = m := by rw [← L1.out]
        by_cases h1 : nth l k < 0
        · have HF := Lib.hid (ord_out hmem (.inl h1))
          have e1 : decide (nth l k < 0) = true := by simpa using h1
          generalize nth l k = x at *
          clear hLm h1 hmem
          have SH := Lib.hid S; clear S
          go_wp2
          go_ret
          exact ⟨by rw [HF.out]; rfl, SH.out.ext⟩
        · have e1 : decide (nth l k < 0) = false := by simpa using h1
          by_cases h2 : (m:Int) ≤ nth l k
          · have HF := Lib.hid (ord_out hmem (.inr (by omega)))
            have e2 : decide ((m:Int) ≤ nth l k) = true := by simpa using h2
            generalize nth l k = x at *
            clear hLm h1 h2 hmem
            have SH := Lib.hid S; clear S
            go_wp2
            go_ret
            exact ⟨by rw [HF.out]; rfl, SH.out.ext⟩
          · obtain ⟨b, hb⟩ : ∃ b : Nat, nth l k = (b:Int) := ⟨(nth l k).toNat, by omega⟩
            have hbm : b < m := by omega
            have fz := own_frozen (S.own 0 rfl) (by omega) b
            have cz := own_cell (S.own 0 rfl) (k := b) (by omega)
            rw [List.getD_eq_getElem?_getD, thL_at hbm, Option.getD_some] at cz
            have ps := (S.rdx 0 rfl).ptr
            have e3 : decide ((b:Int) < 0) = false := by simp
            have e4 : decide ((m:Int) ≤ b) = false := by simp; omega
            have e5 : (b:Int) < m := by omega
            by_cases h3 : (b:Int) ∈ l.take k
            · have HF := Lib.hid (ord_dup hkL (by rw [hb]; exact h3))
              rw [decide_eq_true h3] at cz
              rw [hb] at g1
              clear hLm h1 h2 hmem h3 e1 hb fz
              have SH := Lib.hid S; clear S
              go_wp2
              go_ret
              exact ⟨by rw [HF.out]; rfl, SH.out.ext⟩
            · have HO : Hid (OkT l (k + 1) m) := okT_step hkL ok.out (by omega) (by rw [hb]; exact h3)
              have HT := Lib.hid (thL_set (m := m) hkL hb)
              rw [decide_eq_false h3] at cz
              rw [hb] at g1
              clear hLm h1 h2 hmem h3 e1 hb
              have SH := Lib.hid S; clear S
              go_wp2
              go_roundw
              case rel => exact ⟨k + 1, by omega, by go_num, HO.out, by rw [← HT.out]; exact SH.out.setRow 0 rfl b (by omega) (.bool true)⟩
              case measure => simp [intOf]; omega
      · obtain rfl : k = m := by omega
        have HF := Lib.hid (okT_end L1.out ok.out)
        have SH := Lib.hid S; clear S
        go_wp2
        go_ret
        exact ⟨by rw [HF.out]; rfl, SH.out.ext⟩
  · have c1 : ((m:Int) != n) = true := by simpa using hn
    have hn2 : ¬ (l.length : Int) = n := by rw [← L1.out]; exact hn
    rw [decide_eq_false hn2, Bool.false_and]
    clear hn hn2 hl
    go_enter Tryz.func23, Tryz.ntmps23
    go_wp2
    go_ret
    exact ⟨rfl, Below.refl _ _⟩
end Go.Proofs.YthlmcfbadhidbaaGreat
/- The program's labels (chapter 12): a hub's search. -/
namespace Go.Proofs.YthlmcfbadhidbaaGreat
open Go Go.RowKit
/-- the rows of a side, each with what it read when the search began -/
def rowsS (n : Nat) (H0 : List Hd) (T0 : SrT) (H : List Hd) (T : SrT) : List Pc := (List.range n).map fun v => .ownS 54 2 (nth H v).p (nth H v).n (nth H v).c (encE (nth T v)) (nth H0 v).p (nth H0 v).n (encE (nth T0 v))
theorem rowsS_at {n : Nat} {H0 : List Hd} {T0 : SrT} {H : List Hd} {T : SrT} {Φ : List Pc} {v : Nat} (hv : v < n) : (rowsS n H0 T0 H T ++ Φ)[v]? = some (.ownS 54 2 (nth H v).p (nth H v).n (nth H v).c (encE (nth T v)) (nth H0 v).p (nth H0 v).n (encE (nth T0 v))) := by
  rw [List.getElem?_append_left (by simpa [rowsS] using hv)]
  simp [rowsS, hv]
theorem nth_setHd (H : List Hd) {i : Nat} (j : Nat) (x : Hd) (hi : i < H.length) : nth (H.set i x) j = if i = j then x else nth H j := by
  unfold nth
  rw [List.getD_eq_getElem?_getD, List.getD_eq_getElem?_getD, List.getElem?_set]
  by_cases e : i = j
  · subst e; simp [hi]
  · simp [e]
theorem rowsS_set {n : Nat} {H0 : List Hd} {T0 : SrT} {H : List Hd} {T : SrT} {Φ : List Pc} {v m c : Nat} {p : Option Addr} {r : List (Int × Int)} (hv : v < n) (hH : H.length = n) (hT : T.length = n) :
    (rowsS n H0 T0 H T ++ Φ).set v (.ownS 54 2 p m c (encE r) (nth H0 v).p (nth H0 v).n (encE (nth T0 v))) = rowsS n H0 T0 (H.set v ⟨p, m, c⟩) (T.set v r) ++ Φ := by
  rw [List.set_append_left _ _ (by simpa [rowsS] using hv)]
  congr 1
  apply List.ext_getElem
  · simp [rowsS]
  · intro j h1 h2
    have hj : j < n := by simpa [rowsS] using h2
    rw [List.getElem_set]
    simp only [rowsS, List.getElem_map, List.getElem_range]
    rw [nth_setHd H j _ (by omega), nth_setT T j _ (by omega)]
    by_cases e : v = j
    · subst e; simp
    · simp [e]
def encBl (S : List Bool) : List Value := S.map Value.bool
theorem encBl_set (S : List Bool) (i : Nat) (b : Bool) : (encBl S).set i (.bool b) = encBl (S.set i b) := by simp [encBl, List.map_set]
theorem Rd.cBl {w : World} {p : Option Addr} {n : Nat} {S : List Bool} (h : Rd w 1 p n (encBl S)) {k : Nat} (hk : k < n) : w.cell? (adr p k) = some (.bool (nth S k)) := by
  have hl : n = S.length := by have := h.len; simp [encBl] at this; omega
  rw [h.cells k (by omega)]
  simp [encBl, nth, hl ▸ hk]
theorem madeBl2 (n : Nat) : (madeCells (Value.bool false).cells (n * 1)).toList = encBl (List.replicate n false) := by rw [madeBl]; simp [encBl]
theorem nodup_take {F : List Int} (h : F.Nodup) {k : Nat} (hk : k < F.length) : nth F k ∉ F.take k := by
  intro hm
  have e : F = F.take k ++ F.drop k := (List.take_append_drop k F).symm
  rw [e, List.nodup_append] at h
  rw [nth_eq hk] at hm
  exact absurd rfl (h.2.2 _ hm F[k] (by rw [List.drop_eq_getElem_cons hk]; exact List.mem_cons_self ..))
theorem sub2 {α : Type} (a b c : α) (l : List α) : (a :: b :: l).Sublist (a :: b :: c :: l) := ((List.sublist_cons_self c l).cons_cons b).cons_cons a
def ctxsearchI (gl gs : Nat) (pO : Option Addr) (nO cO : Nat) (pI : Option Addr) (n cI : Nat) (po : Option Addr) (no co : Nat) (P : Pc) (H0 : List Hd) (T0 : SrT) (Φ : List Pc) (H : List Hd) (T : SrT) : List Pc := .blk gl 42 #[.slice pO nO cO, .slice pI n cI] :: .own 52 1 pI n cI (encH H) :: .blk gs 52 #[.slice po no co] :: P :: (rowsS n H0 T0 H T ++ Φ)
set_option maxRecDepth 100000 in
set_option maxHeartbeats 16000000 in
theorem searchI (gr gl gs : Nat) (pO : Option Addr) (nO cO : Nat) (pI : Option Addr) (n cI : Nat) (po : Option Addr) (no co : Nat) (OUT : List (Int × Int)) (P : Pc) (H0 : List Hd) (T0 : SrT) (Φ : List Pc) (h : Nat) (nx : Nat → List Int) (good : Nat → Bool) (dd : Nat → Int) (w w0 : World)
    (S : Sep w0 w (ctxsearchI gl gs pO nO cO pI n cI po no co P H0 T0 Φ H0 T0)) (HP : ∀ W, P.holds W → Rd W 2 po no (encE OUT)) (bO : SmH OUT) (bT : ∀ v, v < n → SmH (nth T0 v)) (bL : ∀ v, v < n → (nth T0 v).length ≤ 200) (hn : n ≤ 200) (hH0 : H0.length = n)
    (HX : SrW nx (fun row d => nearB (leastV OUT row) d) n h T0 good dd)
    (HN : ∀ k, k < n → ∃ q c, Rd w0 1 q (nx k).length (encI (nx k)) ∧ ∀ W, Ext w0 W → Calls Tryz.prog 47 #[.int .i64 k, .pointer (some ⟨gr, 0, none⟩)] W fun e w' => e = .returned (.slice q (nx k).length c) ∧ Ext W w') :
    Calls Tryz.prog 51 #[.agg #[.func (.func 47) #[] #[.pointer (some ⟨gr, 0, none⟩)], .func (.func 48) #[] #[.pointer (some ⟨gl, 0, none⟩)]], .int .i64 n, .int .i64 h, .func (.func 52) #[] #[.pointer (some ⟨gs, 0, none⟩), .pointer (some ⟨gl, 0, none⟩)]] w fun e w' => e = .returned (.tuple #[]) ∧ ∃ H', H'.length = n ∧ Sep w0 w' (ctxsearchI gl gs pO nO cO pI n cI po no co P H0 T0 Φ H' ((List.range n).map fun v => toldW h T0 good dd v)) := by
  obtain ⟨i0, hi0, hz0, hz1, hz2⟩ := info_parts infI
  obtain ⟨j0, hj0, hy0, hy1, hy2⟩ := info_parts infBl
  have hh := HX.hh
  have d1 : (0:Int) ≤ h := by omega
  have d2 : (h:Int) < n := by omega
  have HXh := Lib.hid HX
  have HI0 := Lib.hid (SInv.start HX)
  have HNX := Lib.hid HN
  have HPR := Lib.hid HP
  have HBO := Lib.hid bO
  have HBT := Lib.hid bT
  have HBL := Lib.hid bL
  have HH0 := Lib.hid hH0
  have S1 := Lib.hid (S.al #[.func (.func 47) #[] #[.pointer (some ⟨gr, 0, none⟩)], .func (.func 48) #[] #[.pointer (some ⟨gl, 0, none⟩)]] 83 w.heap.size rfl)
  have HQ : Hid ((w.alloc (.cells #[.func (.func 47) #[] #[.pointer (some ⟨gr, 0, none⟩)], .func (.func 48) #[] #[.pointer (some ⟨gl, 0, none⟩)]] 83)).heap.size = w.heap.size + 1) := by unfold Hid; simp
  clear S HX HN HP bO bT bL hH0
  go_enter Tryz.func51, Tryz.ntmps51
  go_wp2_with (at_make; go_must (refine wpList_make_sep rfl _ _ _ rfl 4 j0 _ 1 Tryz.underlying79 hj0 hy0 hy1 (n:Int) n rfl rfl rfl (by rw [hy2]; omega) (by unfold maxLen; omega) S1.out ?_; intro w2 S'; rw [madeBl2, HQ.out] at S'; have S2 := Lib.hid S'; have fz := own_frozen (S'.own 0 rfl) (by omega) h; have cz := (S'.rdx 0 rfl).cBl hh; rw [adr_some, Nat.zero_add] at fz cz; clear S'))
  have S4 : Hid (Sep w0 ((w2.setCell ⟨w.heap.size + 1, h, none⟩ (.bool true)).alloc (.cells #[.int .i64 h] 3)) (.own 3 1 (some ⟨w2.heap.size, 0, none⟩) [(h:Int)].length 1 (encI [(h:Int)]) :: .own 4 1 (some ⟨w.heap.size + 1, 0, none⟩) n n (encBl ((List.replicate n false).set h true)) :: .blk w.heap.size 83 #[.func (.func 47) #[] #[.pointer (some ⟨gr, 0, none⟩)], .func (.func 48) #[] #[.pointer (some ⟨gl, 0, none⟩)]] :: ctxsearchI gl gs pO nO cO pI n cI po no co P H0 T0 Φ H0 T0)) := by
    have T := S2.out.setRow 0 rfl h (by omega) (.bool true)
    rw [adr_some, Nat.zero_add, encBl_set] at T
    exact T.alrow #[.int .i64 (h:Int)] 3 1 1 w2.heap.size (by simp) (by decide) rfl
  generalize (w2.setCell ⟨w.heap.size + 1, h, none⟩ (.bool true)).alloc (.cells #[.int .i64 (h:Int)] 3) = w3 at *
  generalize (some ⟨w2.heap.size, 0, none⟩ : Option Addr) = qf0 at *
  clear fz cz S1 S2 HQ
  go_loopw [9, 10, 11, 13, 15] (fun v9 v10 _ _ _ wr => ∃ (d : Int) (Sn : List Bool) (T : SrT) (F : List Int) (H : List Hd) (qf : Option Addr) (cf : Nat), v9 = .slice qf F.length cf ∧ v10 = .int .i64 d ∧ SInv nx n h T0 good dd d Sn T F ∧ H.length = n ∧ Hid (∀ v, v < n → nth T v = nth T0 v → nth H v = nth H0 v) ∧ Sep w0 wr (.own 3 1 qf F.length cf (encI F) :: .own 4 1 (some ⟨w.heap.size + 1, 0, none⟩) n n (encBl Sn) :: .blk w.heap.size 83 #[.func (.func 47) #[] #[.pointer (some ⟨gr, 0, none⟩)], .func (.func 48) #[] #[.pointer (some ⟨gl, 0, none⟩)]] :: ctxsearchI gl gs pO nO cO pI n cI po no co P H0 T0 Φ H T)) (fun _ v10 _ _ _ _ => ((n:Int) + 1 - intOf v10).toNat)
  case atStart => exact ⟨0, _, T0, [(h:Int)], H0, qf0, 1, rfl, rfl, HI0.out, HH0.out, fun _ _ _ => rfl, S4.out⟩
  case round =>
    clear S4 HI0
    obtain ⟨d, Sn, T, F, H, qf, cf, rfl, rfl, hI, hHl, hHd, S⟩ := hrel
    have hd0 := hI.d0
    have hbd := hI.bd
    by_cases hF : F = []
    · subst hF
      have HE := Lib.hid (SInv.done HXh.out hI)
      have HHL := Lib.hid hHl
      clear hI hHl hbd
      have SH := Lib.hid S; clear S
      go_wp2
      go_end0
      refine ⟨rfl, H, HHL.out, ?_⟩
      rw [← HE.out]
      exact SH.out.sub ((List.sublist_cons_self _ _).trans ((List.sublist_cons_self _ _).trans (List.sublist_cons_self _ _)))
    · have hFl : 0 < F.length := List.length_pos_iff.2 hF
      rw [if_neg hF] at hbd
      have hdn : d + 1 ≤ n := by omega
      have hFn : F.length ≤ n := nodup_small hI.nd fun x hx => by obtain ⟨u, e, h1, _⟩ := hI.front x hx; omega
      have c1 : decide ((0:Int) < F.length) = true := by simp; omega
      obtain ⟨LV, hLV⟩ : ∃ LV : Nat → SrS, LV = fun k => levelW nx (fun row d => nearB (leastV OUT row) d) (h:Int) d Sn T (F.take k) := ⟨_, rfl⟩
      have HI := Lib.hid hI
      have HM : Hid (∀ k, MInv nx n h good d Sn T (F.take k) (LV k)) := fun k => by
        rw [hLV]; exact MInv.run HXh.out hI _ ⟨F.drop k, (List.take_append_drop k F).symm⟩
      have HST : Hid (∀ k, k < F.length → LV (k + 1) = visitW nx (fun row d => nearB (leastV OUT row) d) (h:Int) d (LV k) (nth F k)) := fun k hk => by
        rw [hLV]; simp only; rw [take_succ_nth F k hk, levelW_snoc]
      have HL0 : Hid (LV 0 = (Sn, [], T)) := by unfold Hid; rw [hLV]; rfl
      have HNXT := Lib.hid (SInv.next HXh.out hI hF)
      have hle : LV F.length = levelW nx (fun row d => nearB (leastV OUT row) d) (h:Int) d Sn T F := by rw [hLV]; simp only; rw [List.take_length]
      rw [← hle] at HNXT
      have HHL := Lib.hid hHl
      have HHD := Lib.hid hHd.out
      clear hI hHl hHd hLV hle hbd hF
      have SH := Lib.hid S; clear S
      go_wp2
      go_step3
      go_wp2
      go_step3
      go_wp2
      go_loopw [11, 13, 15, 30] (fun v11 _ _ i wx => ∃ (k : Nat) (H1 : List Hd) (qa : Option Addr) (ca : Nat), k ≤ F.length ∧ i = .int .i64 k ∧ v11 = .slice qa (LV k).2.1.length ca ∧ H1.length = n ∧ Hid (∀ v, v < n → nth (LV k).2.2 v = nth T0 v → nth H1 v = nth H0 v) ∧ Sep w0 wx (.own 3 1 qa (LV k).2.1.length ca (encI (LV k).2.1) :: .own 4 1 (some ⟨w.heap.size + 1, 0, none⟩) n n (encBl (LV k).1) :: .own 3 1 qf F.length cf (encI F) :: .blk w.heap.size 83 #[.func (.func 47) #[] #[.pointer (some ⟨gr, 0, none⟩)], .func (.func 48) #[] #[.pointer (some ⟨gl, 0, none⟩)]] :: ctxsearchI gl gs pO nO cO pI n cI po no co P H0 T0 Φ H1 (LV k).2.2)) (fun _ _ _ i _ => F.length - (intOf i).toNat)
      case atStart => exact ⟨0, H, none, 0, Nat.zero_le _, rfl, by rw [HL0.out]; rfl, HHL.out, by rw [HL0.out]; exact HHD.out, by
        rw [HL0.out]
        exact (SH.out.nilrow 3 1).perm (List.Perm.trans (List.Perm.cons _ (List.Perm.swap _ _ _)) (List.Perm.refl _))⟩
      case round =>
        clear SH HHL HHD HL0
        obtain ⟨k, H1, qa, ca, hk, rfl, rfl, hH1, hHd1, S⟩ := hrel
        by_cases hlt : k < F.length
        · obtain ⟨v, ev, hv, s1, t1, t2, t3, t4⟩ := HI.out.front (nth F k) (nth_mem hlt)
          have M := HM.out k
          have hvk : (v : Int) ∉ F.take k := by rw [← ev]; exact nodup_take HI.out.nd hlt
          have hTv : nth (LV k).2.2 v = nth T0 v := by rw [M.tab v hv, if_neg fun hc => hvk hc.1, t1]
          have hHv : nth H1 v = nth H0 v := hHd1.out v hv hTv
          have hstp := HST.out k hlt
          rw [ev] at hstp
          have g1 := (S.rdx 2 rfl).cI hlt
          rw [ev] at g1
          have hA := M.nd
          have hA2 := M.ahead
          have hcn := M.cnt
          have hS1 := M.lenS
          have hT1 := M.lenT
          have p1 := (S.rdx 2 rfl).ptr
          obtain ⟨r, hr⟩ : ∃ r, LV k = r := ⟨_, rfl⟩
          rw [hr] at hstp hTv hA hA2 S hHd1 hcn hS1 hT1 ⊢
          obtain ⟨S1, A1, T1⟩ := r
          simp only at hstp hTv hA hA2 S hHd1 hcn hS1 hT1 ⊢
          have hAl : A1.length ≤ n := nodup_small hA fun x hx => by obtain ⟨u, e, h1, _⟩ := hA2 x hx; omega
          have hrowL : (rowsS n H0 T0 H1 T1 ++ Φ)[v]? = some (.ownS 54 2 (nth H1 v).p (nth H1 v).n (nth H1 v).c (encE (nth T1 v)) (nth H1 v).p (nth H1 v).n (encE (nth T1 v))) := by
            rw [rowsS_at hv, hHv, hTv]
          have hsm := HBT.out v hv
          have hbl := HBL.out v hv
          rw [← hTv] at hsm hbl
          have HROW := Lib.hid hrowL
          have hown := (S.ownS (v + 8) hrowL).1
          have hRr := Rd.of_own hown (own_sm hown)
          have HNR := Lib.hid (fun W (hE : Ext wr W) => NearI gs gl po no co OUT pO nO cO pI n cI H1 (nth T1 v) v d W ((S.blk 6 rfl).ext hE) ((HPR.out _ (S.all _ (List.mem_of_getElem? (show _[7]? = some P from rfl)))).ext hE) ((S.blk 4 rfl).ext hE) ((S.rdx 5 rfl).ext hE) (hRr.ext hE) hv HBO.out hsm)
          have HV := Lib.hid (show v < n from hv)
          have e1 : (0:Int) ≤ v := by omega
          have e2 : (v:Int) < n := by omega
          have e3 : (0:Int) ≤ k := by omega
          have e4 : (k:Int) < F.length := by omega
          unfold visitW at hstp
          simp only [Int.toNat_natCast] at hstp
          have HH1 := Lib.hid hH1
          have HT1 := Lib.hid hT1
          have HHD1 := Lib.hid hHd1.out
          have HTV := Lib.hid hTv
          have HHV := Lib.hid hHv
          cases hnear : nearB (leastV OUT (nth T1 v)) d with
          | true =>
            rw [hnear, if_pos rfl] at hstp
            rw [hnear] at HNR
            have HS2 := Lib.hid hstp
            clear M hvk hTv hHv hstp hA hA2 hcn hS1 hT1 hr hrowL hsm hbl hown hRr hnear ev s1 t1 t2 t3 t4 hH1 hHd1 HI HM HST
            have SH := Lib.hid S; clear S
            go_wp2_with (go_at_call 52; go_must (refine (HNR.out _ (Below.refl _ _)).mono ?_; rintro e w3 ⟨rfl, hb⟩; have X3 := Lib.hid hb; have S3 := Lib.hid (SH.out.call hb); have bx0 := ((SH.out.call hb).blk 3 rfl).cell 0; have bx1 := ((SH.out.call hb).blk 3 rfl).cell 1; have bxz := ((SH.out.call hb).blk 3 rfl).lt; clear hb))
            go_roundw
            case rel => exact ⟨k + 1, H1, qa, ca, by omega, by go_num, by rw [HS2.out], HH1.out, by rw [HS2.out]; exact HHD1.out, by rw [HS2.out]; exact S3.out⟩
            case measure => simp [intOf]; omega
          | false =>
            rw [hnear, if_neg (by simp)] at hstp
            rw [hnear] at HNR
            have hnl : (nth H1 v).n = (nth T1 v).length := hRr.nE
            have HCONV : Hid (∀ W p c, Sep w0 W (((.own 3 1 qa A1.length ca (encI A1) :: .own 4 1 (some ⟨w.heap.size + 1, 0, none⟩) n n (encBl S1) :: .own 3 1 qf F.length cf (encI F) :: .blk w.heap.size 83 #[.func (.func 47) #[] #[.pointer (some ⟨gr, 0, none⟩)], .func (.func 48) #[] #[.pointer (some ⟨gl, 0, none⟩)]] :: ctxsearchI gl gs pO nO cO pI n cI po no co P H0 T0 Φ H1 T1).set (v + 8) (.ownS 54 2 p ((nth T1 v).length + 1) c (encE (nth T1 v ++ [((h:Int), d)])) (nth H1 v).p (nth T1 v).length (encE (nth T1 v)))).set 5 (.own 52 1 pI n cI (encH (H1.set v ⟨p, (nth T1 v).length + 1, c⟩)))) → Sep w0 W (.own 3 1 qa A1.length ca (encI A1) :: .own 4 1 (some ⟨w.heap.size + 1, 0, none⟩) n n (encBl S1) :: .own 3 1 qf F.length cf (encI F) :: .blk w.heap.size 83 #[.func (.func 47) #[] #[.pointer (some ⟨gr, 0, none⟩)], .func (.func 48) #[] #[.pointer (some ⟨gl, 0, none⟩)]] :: ctxsearchI gl gs pO nO cO pI n cI po no co P H0 T0 Φ (H1.set v ⟨p, (nth T1 v).length + 1, c⟩) (T1.set v (nth T1 v ++ [((h:Int), d)])))) := fun W p c Z => by
              have e := rowsS_set (Φ := Φ) (H0 := H0) (T0 := T0) (m := (nth T1 v).length + 1) (c := c) (p := p) (r := nth T1 v ++ [((h:Int), d)]) hv hH1 hT1
              have e2 : Pc.ownS 54 2 p ((nth T1 v).length + 1) c (encE (nth T1 v ++ [((h:Int), d)])) (nth H1 v).p (nth T1 v).length (encE (nth T1 v)) = Pc.ownS 54 2 p ((nth T1 v).length + 1) c (encE (nth T1 v ++ [((h:Int), d)])) (nth H0 v).p (nth H0 v).n (encE (nth T0 v)) := by
                rw [← hHv, hnl, ← hTv]
              rw [e2] at Z
              show Sep w0 W (_ :: _ :: _ :: _ :: _ :: _ :: _ :: _ :: (rowsS n H0 T0 _ _ ++ Φ))
              rw [← e]
              exact Z
            have HADD := Lib.hid (fun W SS => AddI gl pO nO cO pI n cI H1 (nth T1 v) v ((h:Int), d) W w0 (.own 3 1 qa A1.length ca (encI A1) :: .own 4 1 (some ⟨w.heap.size + 1, 0, none⟩) n n (encBl S1) :: .own 3 1 qf F.length cf (encI F) :: .blk w.heap.size 83 #[.func (.func 47) #[] #[.pointer (some ⟨gr, 0, none⟩)], .func (.func 48) #[] #[.pointer (some ⟨gl, 0, none⟩)]] :: ctxsearchI gl gs pO nO cO pI n cI po no co P H0 T0 Φ H1 T1) 4 5 (v + 8) SS rfl rfl HROW.out (by omega) (by omega) (by omega) hv (by omega) (by omega))
            have HHD2 : Hid (∀ p c v', v' < n → nth (T1.set v (nth T1 v ++ [((h:Int), d)])) v' = nth T0 v' → nth (H1.set v ⟨p, (nth T1 v).length + 1, c⟩) v' = nth H0 v') := fun p c v' hv' he => by
              rw [nth_setT _ _ _ (by omega)] at he
              rw [nth_setHd _ _ _ (by omega)]
              by_cases ee : v = v'
              · subst ee
                rw [if_pos rfl, ← hTv] at he
                have := congrArg List.length he
                rw [List.length_append, List.length_singleton] at this
                omega
              · rw [if_neg ee] at he ⊢
                exact HHD1.out v' hv' he
            have HHL2 : Hid (∀ p c, (H1.set v ⟨p, (nth T1 v).length + 1, c⟩).length = n) := fun p c => by rw [List.length_set]; exact hH1
            obtain ⟨qn, cn, RN0, HC0⟩ := HNX.out v hv
            have HCN := Lib.hid HC0
            have RN := Lib.hid RN0
            have HIN := Lib.hid (HXh.out.inr v hv)
            have p7 := RN0.ptr
            have n7 := RN0.small
            have HS2 := Lib.hid hstp
            have hS1c : S1.count false ≤ n := by rw [← hS1]; exact List.count_le_length
            have HS1 := Lib.hid hS1
            clear M hvk hTv hHv hstp hA hA2 hcn hS1 hT1 hr hrowL hsm hbl hown hRr hnear ev s1 t1 t2 t3 t4 hH1 hHd1 HI HM HST RN0 HC0 hnl
            have SH := Lib.hid S; clear S
            go_wp2_with (first
              | (go_at_call 47; go_must (refine (HCN.out _ S4.out.ext).mono ?_; rintro e w5 ⟨rfl, hb⟩; have S5 := Lib.hid (S4.out.call hb); clear hb))
              | (go_at_call 48; go_must (refine (HADD.out _ S3.out).mono ?_; rintro e w4 ⟨rfl, p4, c4, Z0⟩; have Z := HCONV.out _ _ _ Z0; have S4 := Lib.hid Z; have by0 := (Z.blk 3 rfl).cell 0; have by1 := (Z.blk 3 rfl).cell 1; have byz := (Z.blk 3 rfl).lt; clear Z Z0))
              | (go_at_call 52; go_must (refine (HNR.out _ (Below.refl _ _)).mono ?_; rintro e w3 ⟨rfl, hb⟩; have X3 := Lib.hid hb; have S3 := Lib.hid (SH.out.call hb); have bx0 := ((SH.out.call hb).blk 3 rfl).cell 0; have bx1 := ((SH.out.call hb).blk 3 rfl).cell 1; have bxz := ((SH.out.call hb).blk 3 rfl).lt; clear hb)))
            clear bx0 bx1 bxz by0 by1 byz
            have HHD3 := Lib.hid (HHD2.out p4 c4)
            have HHL3 := Lib.hid (HHL2.out p4 c4)
            generalize H1.set v ⟨p4, (nth T1 v).length + 1, c4⟩ = H2 at *
            obtain ⟨T2, hT2⟩ : ∃ T2, T1.set v (nth T1 v ++ [((h:Int), d)]) = T2 := ⟨_, rfl⟩
            rw [hT2] at S5 HS2 HHD3
            clear hT2 S3 S4 HADD HCONV HHD2 HHL2 HNR
            generalize nx v = RW at *
            go_loopw [11, 15, 50] (fun v11 _ i wy => ∃ (j : Nat) (qb : Option Addr) (cb : Nat), j ≤ RW.length ∧ i = .int .i64 j ∧ v11 = .slice qb (rowW (S1, A1) (RW.take j)).2.length cb ∧ Sep w0 wy (.own 3 1 qb (rowW (S1, A1) (RW.take j)).2.length cb (encI (rowW (S1, A1) (RW.take j)).2) :: .own 4 1 (some ⟨w.heap.size + 1, 0, none⟩) n n (encBl (rowW (S1, A1) (RW.take j)).1) :: .own 3 1 qf F.length cf (encI F) :: .blk w.heap.size 83 #[.func (.func 47) #[] #[.pointer (some ⟨gr, 0, none⟩)], .func (.func 48) #[] #[.pointer (some ⟨gl, 0, none⟩)]] :: ctxsearchI gl gs pO nO cO pI n cI po no co P H0 T0 Φ H2 T2)) (fun _ _ i _ => RW.length - (intOf i).toNat)
            case atStart => exact ⟨0, qa, ca, Nat.zero_le _, rfl, rfl, S5.out⟩
            case round =>
              clear SH S5
              obtain ⟨j, qb, cb, hj, rfl, rfl, S⟩ := hrel
              by_cases hlj : j < RW.length
              · obtain ⟨u, hu, hun⟩ := HIN.out (nth RW j) (nth_mem hlj)
                have g3 := S.ext.cell (RN.out.cI hlj)
                rw [hu] at g3
                have hpush : rowW (S1, A1) (RW.take (j + 1)) = pushW (rowW (S1, A1) (RW.take j)) u := by rw [take_succ_nth RW j hlj, rowW_snoc, hu]
                have R := rowW_ok (S := S1) A1 (l := RW.take j) fun x hx => by rw [HS1.out]; exact HIN.out x (List.mem_of_mem_take hx)
                have hS2 := R.len
                obtain ⟨B, hB1, _, _, hB2, _⟩ := R.new
                generalize rowW (S1, A1) (RW.take j) = r2 at *
                obtain ⟨S2, A2⟩ := r2
                simp only at *
                have hA2l : A2.length ≤ 400 := by rw [hB1, List.length_append]; omega
                have c2 := (S.rdx 1 rfl).cBl (k := u) hun
                have f2 := own_frozen (S.own 1 rfl) (by omega) u
                rw [adr_some, Nat.zero_add] at c2 f2
                have e5 : (0:Int) ≤ u := by omega
                have e6 : (u:Int) < n := by omega
                have e7 : (0:Int) ≤ j := by omega
                have e8 : (j:Int) < RW.length := by omega
                unfold pushW at hpush
                simp only [Int.toNat_natCast] at hpush
                clear hu R hB1 hB2
                cases hs : nth S2 u with
                | true =>
                  rw [hs] at c2 hpush
                  rw [if_pos rfl] at hpush
                  have HP2 := Lib.hid hpush
                  clear hpush hs hS2
                  have SJ := Lib.hid S; clear S
                  go_wp2
                  go_roundw
                  case rel => exact ⟨j + 1, qb, cb, by omega, by go_num, by rw [HP2.out], by rw [HP2.out]; exact SJ.out⟩
                  case measure => simp [intOf]; omega
                | false =>
                  rw [hs] at c2 hpush
                  rw [if_neg (by simp)] at hpush
                  have HP2 := Lib.hid hpush
                  have SQ : Hid (Sep w0 (wr.setCell ⟨w.heap.size + 1, u, none⟩ (.bool true)) (.own 3 1 qb A2.length cb (encI A2) :: .own 4 1 (some ⟨w.heap.size + 1, 0, none⟩) n n (encBl (S2.set u true)) :: .own 3 1 qf F.length cf (encI F) :: .blk w.heap.size 83 #[.func (.func 47) #[] #[.pointer (some ⟨gr, 0, none⟩)], .func (.func 48) #[] #[.pointer (some ⟨gl, 0, none⟩)]] :: ctxsearchI gl gs pO nO cO pI n cI po no co P H0 T0 Φ H2 T2)) := by
                    have T := S.setRow 1 rfl u (by omega) (.bool true)
                    rw [adr_some, Nat.zero_add, encBl_set] at T
                    exact T
                  clear hpush hs hS2 S
                  go_wp2_with (at_builtin; go_must (refine wpList_append_sep rfl _ _ _ rfl 3 i0 _ 1 8 Tryz.underlying22 hi0 hz0 hz1 hz2 rfl (by omega) (SQ.out.junk _) 0 qb A2.length cb _ rfl rfl _ 1 1 _ rfl (Rd.oneIat _ _ (u:Int) wr.heap.size (by simp)) (one_encI _) (by omega) (by omega) ?_; intro q7 c7 w7 S' hsz; have S7 := Lib.hid S'; clear S' hsz))
                  go_roundw
                  case rel => exact ⟨j + 1, q7, c7, by omega, by go_num, by rw [HP2.out, List.length_append]; rfl, by rw [HP2.out]; simp only; rw [List.length_append, encI_append]; exact S7.out⟩
                  case measure => simp [intOf]; omega
              · obtain rfl : j = RW.length := by omega
                rw [List.take_length] at S ⊢
                have SJ := Lib.hid S; clear S
                go_wp2
                go_roundw
                case rel => exact ⟨k + 1, H2, qb, cb, by omega, by go_num, by rw [HS2.out], HHL3.out, by rw [HS2.out]; exact HHD3.out, by rw [HS2.out]; exact SJ.out⟩
                case measure => simp [intOf]; omega
        · obtain rfl : k = F.length := by omega
          have HHD1 := Lib.hid hHd1.out
          have HH1 := Lib.hid hH1
          clear hHd1 hH1 HM HST HI
          have hnb : (LV F.length).2.1.length ≤ n := by
            have hz := HNXT.out
            exact nodup_small hz.nd fun x hx => by obtain ⟨u, e, h1, _⟩ := hz.front x hx; omega
          obtain ⟨r, hr⟩ : ∃ r, LV F.length = r := ⟨_, rfl⟩
          rw [hr] at HNXT S HHD1 hnb ⊢
          obtain ⟨S1, A1, T1⟩ := r
          simp only at HNXT S HHD1 hnb ⊢
          clear hr
          have SH := Lib.hid S; clear S
          go_wp2
          apply_assumption
          go_wp2
          go_roundw
          case rel => exact ⟨d + 1, S1, T1, A1, H1, qa, ca, rfl, by go_num, HNXT.out, HH1.out, HHD1.out, SH.out.sub (sub2 _ _ _ _)⟩
          case measure => simp [intOf]; omega
def ctxsearchO (gl gs : Nat) (pO : Option Addr) (nO cO : Nat) (pI : Option Addr) (n cI : Nat) (po : Option Addr) (no co : Nat) (P : Pc) (H0 : List Hd) (T0 : SrT) (Φ : List Pc) (H : List Hd) (T : SrT) : List Pc := .blk gl 42 #[.slice pI n cI, .slice pO nO cO] :: .own 52 1 pI n cI (encH H) :: .blk gs 52 #[.slice po no co] :: P :: (rowsS n H0 T0 H T ++ Φ)
set_option maxRecDepth 100000 in
set_option maxHeartbeats 16000000 in
theorem searchO (gr gl gs : Nat) (pO : Option Addr) (nO cO : Nat) (pI : Option Addr) (n cI : Nat) (po : Option Addr) (no co : Nat) (OUT : List (Int × Int)) (P : Pc) (H0 : List Hd) (T0 : SrT) (Φ : List Pc) (h : Nat) (nx : Nat → List Int) (good : Nat → Bool) (dd : Nat → Int) (w w0 : World)
    (S : Sep w0 w (ctxsearchO gl gs pO nO cO pI n cI po no co P H0 T0 Φ H0 T0)) (HP : ∀ W, P.holds W → Rd W 2 po no (encE OUT)) (bO : SmH OUT) (bT : ∀ v, v < n → SmH (nth T0 v)) (bL : ∀ v, v < n → (nth T0 v).length ≤ 200) (hn : n ≤ 200) (hH0 : H0.length = n)
    (HX : SrW nx (fun row d => nearB (leastV row OUT) d) n h T0 good dd)
    (HN : ∀ k, k < n → ∃ q c, Rd w0 1 q (nx k).length (encI (nx k)) ∧ ∀ W, Ext w0 W → Calls Tryz.prog 49 #[.int .i64 k, .pointer (some ⟨gr, 0, none⟩)] W fun e w' => e = .returned (.slice q (nx k).length c) ∧ Ext W w') :
    Calls Tryz.prog 51 #[.agg #[.func (.func 49) #[] #[.pointer (some ⟨gr, 0, none⟩)], .func (.func 50) #[] #[.pointer (some ⟨gl, 0, none⟩)]], .int .i64 n, .int .i64 h, .func (.func 54) #[] #[.pointer (some ⟨gl, 0, none⟩), .pointer (some ⟨gs, 0, none⟩)]] w fun e w' => e = .returned (.tuple #[]) ∧ ∃ H', H'.length = n ∧ Sep w0 w' (ctxsearchO gl gs pO nO cO pI n cI po no co P H0 T0 Φ H' ((List.range n).map fun v => toldW h T0 good dd v)) := by
  obtain ⟨i0, hi0, hz0, hz1, hz2⟩ := info_parts infI
  obtain ⟨j0, hj0, hy0, hy1, hy2⟩ := info_parts infBl
  have hh := HX.hh
  have d1 : (0:Int) ≤ h := by omega
  have d2 : (h:Int) < n := by omega
  have HXh := Lib.hid HX
  have HI0 := Lib.hid (SInv.start HX)
  have HNX := Lib.hid HN
  have HPR := Lib.hid HP
  have HBO := Lib.hid bO
  have HBT := Lib.hid bT
  have HBL := Lib.hid bL
  have HH0 := Lib.hid hH0
  have S1 := Lib.hid (S.al #[.func (.func 49) #[] #[.pointer (some ⟨gr, 0, none⟩)], .func (.func 50) #[] #[.pointer (some ⟨gl, 0, none⟩)]] 83 w.heap.size rfl)
  have HQ : Hid ((w.alloc (.cells #[.func (.func 49) #[] #[.pointer (some ⟨gr, 0, none⟩)], .func (.func 50) #[] #[.pointer (some ⟨gl, 0, none⟩)]] 83)).heap.size = w.heap.size + 1) := by unfold Hid; simp
  clear S HX HN HP bO bT bL hH0
  go_enter Tryz.func51, Tryz.ntmps51
  go_wp2_with (at_make; go_must (refine wpList_make_sep rfl _ _ _ rfl 4 j0 _ 1 Tryz.underlying79 hj0 hy0 hy1 (n:Int) n rfl rfl rfl (by rw [hy2]; omega) (by unfold maxLen; omega) S1.out ?_; intro w2 S'; rw [madeBl2, HQ.out] at S'; have S2 := Lib.hid S'; have fz := own_frozen (S'.own 0 rfl) (by omega) h; have cz := (S'.rdx 0 rfl).cBl hh; rw [adr_some, Nat.zero_add] at fz cz; clear S'))
  have S4 : Hid (Sep w0 ((w2.setCell ⟨w.heap.size + 1, h, none⟩ (.bool true)).alloc (.cells #[.int .i64 h] 3)) (.own 3 1 (some ⟨w2.heap.size, 0, none⟩) [(h:Int)].length 1 (encI [(h:Int)]) :: .own 4 1 (some ⟨w.heap.size + 1, 0, none⟩) n n (encBl ((List.replicate n false).set h true)) :: .blk w.heap.size 83 #[.func (.func 49) #[] #[.pointer (some ⟨gr, 0, none⟩)], .func (.func 50) #[] #[.pointer (some ⟨gl, 0, none⟩)]] :: ctxsearchO gl gs pO nO cO pI n cI po no co P H0 T0 Φ H0 T0)) := by
    have T := S2.out.setRow 0 rfl h (by omega) (.bool true)
    rw [adr_some, Nat.zero_add, encBl_set] at T
    exact T.alrow #[.int .i64 (h:Int)] 3 1 1 w2.heap.size (by simp) (by decide) rfl
  generalize (w2.setCell ⟨w.heap.size + 1, h, none⟩ (.bool true)).alloc (.cells #[.int .i64 (h:Int)] 3) = w3 at *
  generalize (some ⟨w2.heap.size, 0, none⟩ : Option Addr) = qf0 at *
  clear fz cz S1 S2 HQ
  go_loopw [9, 10, 11, 13, 15] (fun v9 v10 _ _ _ wr => ∃ (d : Int) (Sn : List Bool) (T : SrT) (F : List Int) (H : List Hd) (qf : Option Addr) (cf : Nat), v9 = .slice qf F.length cf ∧ v10 = .int .i64 d ∧ SInv nx n h T0 good dd d Sn T F ∧ H.length = n ∧ Hid (∀ v, v < n → nth T v = nth T0 v → nth H v = nth H0 v) ∧ Sep w0 wr (.own 3 1 qf F.length cf (encI F) :: .own 4 1 (some ⟨w.heap.size + 1, 0, none⟩) n n (encBl Sn) :: .blk w.heap.size 83 #[.func (.func 49) #[] #[.pointer (some ⟨gr, 0, none⟩)], .func (.func 50) #[] #[.pointer (some ⟨gl, 0, none⟩)]] :: ctxsearchO gl gs pO nO cO pI n cI po no co P H0 T0 Φ H T)) (fun _ v10 _ _ _ _ => ((n:Int) + 1 - intOf v10).toNat)
  case atStart => exact ⟨0, _, T0, [(h:Int)], H0, qf0, 1, rfl, rfl, HI0.out, HH0.out, fun _ _ _ => rfl, S4.out⟩
  case round =>
    clear S4 HI0
    obtain ⟨d, Sn, T, F, H, qf, cf, rfl, rfl, hI, hHl, hHd, S⟩ := hrel
    have hd0 := hI.d0
    have hbd := hI.bd
    by_cases hF : F = []
    · subst hF
      have HE := Lib.hid (SInv.done HXh.out hI)
      have HHL := Lib.hid hHl
      clear hI hHl hbd
      have SH := Lib.hid S; clear S
      go_wp2
      go_end0
      refine ⟨rfl, H, HHL.out, ?_⟩
      rw [← HE.out]
      exact SH.out.sub ((List.sublist_cons_self _ _).trans ((List.sublist_cons_self _ _).trans (List.sublist_cons_self _ _)))
    · have hFl : 0 < F.length := List.length_pos_iff.2 hF
      rw [if_neg hF] at hbd
      have hdn : d + 1 ≤ n := by omega
      have hFn : F.length ≤ n := nodup_small hI.nd fun x hx => by obtain ⟨u, e, h1, _⟩ := hI.front x hx; omega
      have c1 : decide ((0:Int) < F.length) = true := by simp; omega
      obtain ⟨LV, hLV⟩ : ∃ LV : Nat → SrS, LV = fun k => levelW nx (fun row d => nearB (leastV row OUT) d) (h:Int) d Sn T (F.take k) := ⟨_, rfl⟩
      have HI := Lib.hid hI
      have HM : Hid (∀ k, MInv nx n h good d Sn T (F.take k) (LV k)) := fun k => by
        rw [hLV]; exact MInv.run HXh.out hI _ ⟨F.drop k, (List.take_append_drop k F).symm⟩
      have HST : Hid (∀ k, k < F.length → LV (k + 1) = visitW nx (fun row d => nearB (leastV row OUT) d) (h:Int) d (LV k) (nth F k)) := fun k hk => by
        rw [hLV]; simp only; rw [take_succ_nth F k hk, levelW_snoc]
      have HL0 : Hid (LV 0 = (Sn, [], T)) := by unfold Hid; rw [hLV]; rfl
      have HNXT := Lib.hid (SInv.next HXh.out hI hF)
      have hle : LV F.length = levelW nx (fun row d => nearB (leastV row OUT) d) (h:Int) d Sn T F := by rw [hLV]; simp only; rw [List.take_length]
      rw [← hle] at HNXT
      have HHL := Lib.hid hHl
      have HHD := Lib.hid hHd.out
      clear hI hHl hHd hLV hle hbd hF
      have SH := Lib.hid S; clear S
      go_wp2
      go_step3
      go_wp2
      go_step3
      go_wp2
      go_loopw [11, 13, 15, 30] (fun v11 _ _ i wx => ∃ (k : Nat) (H1 : List Hd) (qa : Option Addr) (ca : Nat), k ≤ F.length ∧ i = .int .i64 k ∧ v11 = .slice qa (LV k).2.1.length ca ∧ H1.length = n ∧ Hid (∀ v, v < n → nth (LV k).2.2 v = nth T0 v → nth H1 v = nth H0 v) ∧ Sep w0 wx (.own 3 1 qa (LV k).2.1.length ca (encI (LV k).2.1) :: .own 4 1 (some ⟨w.heap.size + 1, 0, none⟩) n n (encBl (LV k).1) :: .own 3 1 qf F.length cf (encI F) :: .blk w.heap.size 83 #[.func (.func 49) #[] #[.pointer (some ⟨gr, 0, none⟩)], .func (.func 50) #[] #[.pointer (some ⟨gl, 0, none⟩)]] :: ctxsearchO gl gs pO nO cO pI n cI po no co P H0 T0 Φ H1 (LV k).2.2)) (fun _ _ _ i _ => F.length - (intOf i).toNat)
      case atStart => exact ⟨0, H, none, 0, Nat.zero_le _, rfl, by rw [HL0.out]; rfl, HHL.out, by rw [HL0.out]; exact HHD.out, by
        rw [HL0.out]
        exact (SH.out.nilrow 3 1).perm (List.Perm.trans (List.Perm.cons _ (List.Perm.swap _ _ _)) (List.Perm.refl _))⟩
      case round =>
        clear SH HHL HHD HL0
        obtain ⟨k, H1, qa, ca, hk, rfl, rfl, hH1, hHd1, S⟩ := hrel
        by_cases hlt : k < F.length
        · obtain ⟨v, ev, hv, s1, t1, t2, t3, t4⟩ := HI.out.front (nth F k) (nth_mem hlt)
          have M := HM.out k
          have hvk : (v : Int) ∉ F.take k := by rw [← ev]; exact nodup_take HI.out.nd hlt
          have hTv : nth (LV k).2.2 v = nth T0 v := by rw [M.tab v hv, if_neg fun hc => hvk hc.1, t1]
          have hHv : nth H1 v = nth H0 v := hHd1.out v hv hTv
          have hstp := HST.out k hlt
          rw [ev] at hstp
          have g1 := (S.rdx 2 rfl).cI hlt
          rw [ev] at g1
          have hA := M.nd
          have hA2 := M.ahead
          have hcn := M.cnt
          have hS1 := M.lenS
          have hT1 := M.lenT
          have p1 := (S.rdx 2 rfl).ptr
          obtain ⟨r, hr⟩ : ∃ r, LV k = r := ⟨_, rfl⟩
          rw [hr] at hstp hTv hA hA2 S hHd1 hcn hS1 hT1 ⊢
          obtain ⟨S1, A1, T1⟩ := r
          simp only at hstp hTv hA hA2 S hHd1 hcn hS1 hT1 ⊢
          have hAl : A1.length ≤ n := nodup_small hA fun x hx => by obtain ⟨u, e, h1, _⟩ := hA2 x hx; omega
          have hrowL : (rowsS n H0 T0 H1 T1 ++ Φ)[v]? = some (.ownS 54 2 (nth H1 v).p (nth H1 v).n (nth H1 v).c (encE (nth T1 v)) (nth H1 v).p (nth H1 v).n (encE (nth T1 v))) := by
            rw [rowsS_at hv, hHv, hTv]
          have hsm := HBT.out v hv
          have hbl := HBL.out v hv
          rw [← hTv] at hsm hbl
          have HROW := Lib.hid hrowL
          have hown := (S.ownS (v + 8) hrowL).1
          have hRr := Rd.of_own hown (own_sm hown)
          have HNR := Lib.hid (fun W (hE : Ext wr W) => NearO gs gl po no co OUT pO nO cO pI n cI H1 (nth T1 v) v d W ((S.blk 6 rfl).ext hE) ((HPR.out _ (S.all _ (List.mem_of_getElem? (show _[7]? = some P from rfl)))).ext hE) ((S.blk 4 rfl).ext hE) ((S.rdx 5 rfl).ext hE) (hRr.ext hE) hv HBO.out hsm)
          have HV := Lib.hid (show v < n from hv)
          have e1 : (0:Int) ≤ v := by omega
          have e2 : (v:Int) < n := by omega
          have e3 : (0:Int) ≤ k := by omega
          have e4 : (k:Int) < F.length := by omega
          unfold visitW at hstp
          simp only [Int.toNat_natCast] at hstp
          have HH1 := Lib.hid hH1
          have HT1 := Lib.hid hT1
          have HHD1 := Lib.hid hHd1.out
          have HTV := Lib.hid hTv
          have HHV := Lib.hid hHv
          cases hnear : nearB (leastV (nth T1 v) OUT) d with
          | true =>
            rw [hnear, if_pos rfl] at hstp
            rw [hnear] at HNR
            have HS2 := Lib.hid hstp
            clear M hvk hTv hHv hstp hA hA2 hcn hS1 hT1 hr hrowL hsm hbl hown hRr hnear ev s1 t1 t2 t3 t4 hH1 hHd1 HI HM HST
            have SH := Lib.hid S; clear S
            go_wp2_with (go_at_call 54; go_must (refine (HNR.out _ (Below.refl _ _)).mono ?_; rintro e w3 ⟨rfl, hb⟩; have X3 := Lib.hid hb; have S3 := Lib.hid (SH.out.call hb); have bx0 := ((SH.out.call hb).blk 3 rfl).cell 0; have bx1 := ((SH.out.call hb).blk 3 rfl).cell 1; have bxz := ((SH.out.call hb).blk 3 rfl).lt; clear hb))
            go_roundw
            case rel => exact ⟨k + 1, H1, qa, ca, by omega, by go_num, by rw [HS2.out], HH1.out, by rw [HS2.out]; exact HHD1.out, by rw [HS2.out]; exact S3.out⟩
            case measure => simp [intOf]; omega
          | false =>
            rw [hnear, if_neg (by simp)] at hstp
            rw [hnear] at HNR
            have hnl : (nth H1 v).n = (nth T1 v).length := hRr.nE
            have HCONV : Hid (∀ W p c, Sep w0 W (((.own 3 1 qa A1.length ca (encI A1) :: .own 4 1 (some ⟨w.heap.size + 1, 0, none⟩) n n (encBl S1) :: .own 3 1 qf F.length cf (encI F) :: .blk w.heap.size 83 #[.func (.func 49) #[] #[.pointer (some ⟨gr, 0, none⟩)], .func (.func 50) #[] #[.pointer (some ⟨gl, 0, none⟩)]] :: ctxsearchO gl gs pO nO cO pI n cI po no co P H0 T0 Φ H1 T1).set (v + 8) (.ownS 54 2 p ((nth T1 v).length + 1) c (encE (nth T1 v ++ [((h:Int), d)])) (nth H1 v).p (nth T1 v).length (encE (nth T1 v)))).set 5 (.own 52 1 pI n cI (encH (H1.set v ⟨p, (nth T1 v).length + 1, c⟩)))) → Sep w0 W (.own 3 1 qa A1.length ca (encI A1) :: .own 4 1 (some ⟨w.heap.size + 1, 0, none⟩) n n (encBl S1) :: .own 3 1 qf F.length cf (encI F) :: .blk w.heap.size 83 #[.func (.func 49) #[] #[.pointer (some ⟨gr, 0, none⟩)], .func (.func 50) #[] #[.pointer (some ⟨gl, 0, none⟩)]] :: ctxsearchO gl gs pO nO cO pI n cI po no co P H0 T0 Φ (H1.set v ⟨p, (nth T1 v).length + 1, c⟩) (T1.set v (nth T1 v ++ [((h:Int), d)])))) := fun W p c Z => by
              have e := rowsS_set (Φ := Φ) (H0 := H0) (T0 := T0) (m := (nth T1 v).length + 1) (c := c) (p := p) (r := nth T1 v ++ [((h:Int), d)]) hv hH1 hT1
              have e2 : Pc.ownS 54 2 p ((nth T1 v).length + 1) c (encE (nth T1 v ++ [((h:Int), d)])) (nth H1 v).p (nth T1 v).length (encE (nth T1 v)) = Pc.ownS 54 2 p ((nth T1 v).length + 1) c (encE (nth T1 v ++ [((h:Int), d)])) (nth H0 v).p (nth H0 v).n (encE (nth T0 v)) := by
                rw [← hHv, hnl, ← hTv]
              rw [e2] at Z
              show Sep w0 W (_ :: _ :: _ :: _ :: _ :: _ :: _ :: _ :: (rowsS n H0 T0 _ _ ++ Φ))
              rw [← e]
              exact Z
            have HADD := Lib.hid (fun W SS => AddO gl pO nO cO pI n cI H1 (nth T1 v) v ((h:Int), d) W w0 (.own 3 1 qa A1.length ca (encI A1) :: .own 4 1 (some ⟨w.heap.size + 1, 0, none⟩) n n (encBl S1) :: .own 3 1 qf F.length cf (encI F) :: .blk w.heap.size 83 #[.func (.func 49) #[] #[.pointer (some ⟨gr, 0, none⟩)], .func (.func 50) #[] #[.pointer (some ⟨gl, 0, none⟩)]] :: ctxsearchO gl gs pO nO cO pI n cI po no co P H0 T0 Φ H1 T1) 4 5 (v + 8) SS rfl rfl HROW.out (by omega) (by omega) (by omega) hv (by omega) (by omega))
            have HHD2 : Hid (∀ p c v', v' < n → nth (T1.set v (nth T1 v ++ [((h:Int), d)])) v' = nth T0 v' → nth (H1.set v ⟨p, (nth T1 v).length + 1, c⟩) v' = nth H0 v') := fun p c v' hv' he => by
              rw [nth_setT _ _ _ (by omega)] at he
              rw [nth_setHd _ _ _ (by omega)]
              by_cases ee : v = v'
              · subst ee
                rw [if_pos rfl, ← hTv] at he
                have := congrArg List.length he
                rw [List.length_append, List.length_singleton] at this
                omega
              · rw [if_neg ee] at he ⊢
                exact HHD1.out v' hv' he
            have HHL2 : Hid (∀ p c, (H1.set v ⟨p, (nth T1 v).length + 1, c⟩).length = n) := fun p c => by rw [List.length_set]; exact hH1
            obtain ⟨qn, cn, RN0, HC0⟩ := HNX.out v hv
            have HCN := Lib.hid HC0
            have RN := Lib.hid RN0
            have HIN := Lib.hid (HXh.out.inr v hv)
            have p7 := RN0.ptr
            have n7 := RN0.small
            have HS2 := Lib.hid hstp
            have hS1c : S1.count false ≤ n := by rw [← hS1]; exact List.count_le_length
            have HS1 := Lib.hid hS1
            clear M hvk hTv hHv hstp hA hA2 hcn hS1 hT1 hr hrowL hsm hbl hown hRr hnear ev s1 t1 t2 t3 t4 hH1 hHd1 HI HM HST RN0 HC0 hnl
            have SH := Lib.hid S; clear S
            go_wp2_with (first
              | (go_at_call 49; go_must (refine (HCN.out _ S4.out.ext).mono ?_; rintro e w5 ⟨rfl, hb⟩; have S5 := Lib.hid (S4.out.call hb); clear hb))
              | (go_at_call 50; go_must (refine (HADD.out _ S3.out).mono ?_; rintro e w4 ⟨rfl, p4, c4, Z0⟩; have Z := HCONV.out _ _ _ Z0; have S4 := Lib.hid Z; have by0 := (Z.blk 3 rfl).cell 0; have by1 := (Z.blk 3 rfl).cell 1; have byz := (Z.blk 3 rfl).lt; clear Z Z0))
              | (go_at_call 54; go_must (refine (HNR.out _ (Below.refl _ _)).mono ?_; rintro e w3 ⟨rfl, hb⟩; have X3 := Lib.hid hb; have S3 := Lib.hid (SH.out.call hb); have bx0 := ((SH.out.call hb).blk 3 rfl).cell 0; have bx1 := ((SH.out.call hb).blk 3 rfl).cell 1; have bxz := ((SH.out.call hb).blk 3 rfl).lt; clear hb)))
            clear bx0 bx1 bxz by0 by1 byz
            have HHD3 := Lib.hid (HHD2.out p4 c4)
            have HHL3 := Lib.hid (HHL2.out p4 c4)
            generalize H1.set v ⟨p4, (nth T1 v).length + 1, c4⟩ = H2 at *
            obtain ⟨T2, hT2⟩ : ∃ T2, T1.set v (nth T1 v ++ [((h:Int), d)]) = T2 := ⟨_, rfl⟩
            rw [hT2] at S5 HS2 HHD3
            clear hT2 S3 S4 HADD HCONV HHD2 HHL2 HNR
            generalize nx v = RW at *
            go_loopw [11, 15, 50] (fun v11 _ i wy => ∃ (j : Nat) (qb : Option Addr) (cb : Nat), j ≤ RW.length ∧ i = .int .i64 j ∧ v11 = .slice qb (rowW (S1, A1) (RW.take j)).2.length cb ∧ Sep w0 wy (.own 3 1 qb (rowW (S1, A1) (RW.take j)).2.length cb (encI (rowW (S1, A1) (RW.take j)).2) :: .own 4 1 (some ⟨w.heap.size + 1, 0, none⟩) n n (encBl (rowW (S1, A1) (RW.take j)).1) :: .own 3 1 qf F.length cf (encI F) :: .blk w.heap.size 83 #[.func (.func 49) #[] #[.pointer (some ⟨gr, 0, none⟩)], .func (.func 50) #[] #[.pointer (some ⟨gl, 0, none⟩)]] :: ctxsearchO gl gs pO nO cO pI n cI po no co P H0 T0 Φ H2 T2)) (fun _ _ i _ => RW.length - (intOf i).toNat)
            case atStart => exact ⟨0, qa, ca, Nat.zero_le _, rfl, rfl, S5.out⟩
            case round =>
              clear SH S5
              obtain ⟨j, qb, cb, hj, rfl, rfl, S⟩ := hrel
              by_cases hlj : j < RW.length
              · obtain ⟨u, hu, hun⟩ := HIN.out (nth RW j) (nth_mem hlj)
                have g3 := S.ext.cell (RN.out.cI hlj)
                rw [hu] at g3
                have hpush : rowW (S1, A1) (RW.take (j + 1)) = pushW (rowW (S1, A1) (RW.take j)) u := by rw [take_succ_nth RW j hlj, rowW_snoc, hu]
                have R := rowW_ok (S := S1) A1 (l := RW.take j) fun x hx => by rw [HS1.out]; exact HIN.out x (List.mem_of_mem_take hx)
                have hS2 := R.len
                obtain ⟨B, hB1, _, _, hB2, _⟩ := R.new
                generalize rowW (S1, A1) (RW.take j) = r2 at *
                obtain ⟨S2, A2⟩ := r2
                simp only at *
                have hA2l : A2.length ≤ 400 := by rw [hB1, List.length_append]; omega
                have c2 := (S.rdx 1 rfl).cBl (k := u) hun
                have f2 := own_frozen (S.own 1 rfl) (by omega) u
                rw [adr_some, Nat.zero_add] at c2 f2
                have e5 : (0:Int) ≤ u := by omega
                have e6 : (u:Int) < n := by omega
                have e7 : (0:Int) ≤ j := by omega
                have e8 : (j:Int) < RW.length := by omega
                unfold pushW at hpush
                simp only [Int.toNat_natCast] at hpush
                clear hu R hB1 hB2
                cases hs : nth S2 u with
                | true =>
                  rw [hs] at c2 hpush
                  rw [if_pos rfl] at hpush
                  have HP2 := Lib.hid hpush
                  clear hpush hs hS2
                  have SJ := Lib.hid S; clear S
                  go_wp2
                  go_roundw
                  case rel => exact ⟨j + 1, qb, cb, by omega, by go_num, by rw [HP2.out], by rw [HP2.out]; exact SJ.out⟩
                  case measure => simp [intOf]; omega
                | false =>
                  rw [hs] at c2 hpush
                  rw [if_neg (by simp)] at hpush
                  have HP2 := Lib.hid hpush
                  have SQ : Hid (Sep w0 (wr.setCell ⟨w.heap.size + 1, u, none⟩ (.bool true)) (.own 3 1 qb A2.length cb (encI A2) :: .own 4 1 (some ⟨w.heap.size + 1, 0, none⟩) n n (encBl (S2.set u true)) :: .own 3 1 qf F.length cf (encI F) :: .blk w.heap.size 83 #[.func (.func 49) #[] #[.pointer (some ⟨gr, 0, none⟩)], .func (.func 50) #[] #[.pointer (some ⟨gl, 0, none⟩)]] :: ctxsearchO gl gs pO nO cO pI n cI po no co P H0 T0 Φ H2 T2)) := by
                    have T := S.setRow 1 rfl u (by omega) (.bool true)
                    rw [adr_some, Nat.zero_add, encBl_set] at T
                    exact T
                  clear hpush hs hS2 S
                  go_wp2_with (at_builtin; go_must (refine wpList_append_sep rfl _ _ _ rfl 3 i0 _ 1 8 Tryz.underlying22 hi0 hz0 hz1 hz2 rfl (by omega) (SQ.out.junk _) 0 qb A2.length cb _ rfl rfl _ 1 1 _ rfl (Rd.oneIat _ _ (u:Int) wr.heap.size (by simp)) (one_encI _) (by omega) (by omega) ?_; intro q7 c7 w7 S' hsz; have S7 := Lib.hid S'; clear S' hsz))
                  go_roundw
                  case rel => exact ⟨j + 1, q7, c7, by omega, by go_num, by rw [HP2.out, List.length_append]; rfl, by rw [HP2.out]; simp only; rw [List.length_append, encI_append]; exact S7.out⟩
                  case measure => simp [intOf]; omega
              · obtain rfl : j = RW.length := by omega
                rw [List.take_length] at S ⊢
                have SJ := Lib.hid S; clear S
                go_wp2
                go_roundw
                case rel => exact ⟨k + 1, H2, qb, cb, by omega, by go_num, by rw [HS2.out], HHL3.out, by rw [HS2.out]; exact HHD3.out, by rw [HS2.out]; exact SJ.out⟩
                case measure => simp [intOf]; omega
        · obtain rfl : k = F.length := by omega
          have HHD1 := Lib.hid hHd1.out
          have HH1 := Lib.hid hH1
          clear hHd1 hH1 HM HST HI
          have hnb : (LV F.length).2.1.length ≤ n := by
            have hz := HNXT.out
            exact nodup_small hz.nd fun x hx => by obtain ⟨u, e, h1, _⟩ := hz.front x hx; omega
          obtain ⟨r, hr⟩ : ∃ r, LV F.length = r := ⟨_, rfl⟩
          rw [hr] at HNXT S HHD1 hnb ⊢
          obtain ⟨S1, A1, T1⟩ := r
          simp only at HNXT S HHD1 hnb ⊢
          clear hr
          have SH := Lib.hid S; clear S
          go_wp2
          apply_assumption
          go_wp2
          go_roundw
          case rel => exact ⟨d + 1, S1, T1, A1, H1, qa, ca, rfl, by go_num, HNXT.out, HH1.out, HHD1.out, SH.out.sub (sub2 _ _ _ _)⟩
          case measure => simp [intOf]; omega
end Go.Proofs.YthlmcfbadhidbaaGreat
/- Pieces put together into one, and taken apart again; pieces that lie in no block. -/
namespace Go.Proofs.YthlmcfbadhidbaaGreat
open Go Go.RowKit
/-- many pieces as one -/
def Pc.all (Δ : List Pc) : Pc :=
  ⟨fun k => ∃ p ∈ Δ, p.foot k, fun w => (∀ p ∈ Δ, p.holds w) ∧ Δ.Pairwise (fun (p q : Pc) => ∀ k : Nat, p.foot k → ¬ q.foot k),
   fun w h k hk => by obtain ⟨p, hp, hf⟩ := hk; exact p.inh w (h.1 p hp) k hf,
   fun w w' h hk => ⟨fun p hp => p.loc w w' (h.1 p hp) fun k hf => hk k ⟨p, hp, hf⟩, h.2⟩⟩
section
variable {w0 w : World} {Γ Δ : List Pc}
theorem Sep.bundle (S : Sep w0 w (Γ ++ Δ)) : Sep w0 w (Pc.all Δ :: Γ) := by
  have ha := List.pairwise_append.1 S.apart
  refine ⟨S.ext, fun p hp => ?_, fun p hp k hk => ?_, List.pairwise_cons.2 ⟨fun q hq k hk hk2 => ?_, ha.1⟩⟩
  · rcases List.mem_cons.1 hp with rfl | hp
    · exact ⟨fun q hq => S.all q (List.mem_append_right _ hq), ha.2.1⟩
    · exact S.all p (List.mem_append_left _ hp)
  · rcases List.mem_cons.1 hp with rfl | hp
    · obtain ⟨q, hq, hf⟩ := hk; exact S.new q (List.mem_append_right _ hq) k hf
    · exact S.new p (List.mem_append_left _ hp) k hk
  · obtain ⟨p, hp, hf⟩ := hk
    exact ha.2.2 q hq p hp k hk2 hf
theorem Sep.unbundle (S : Sep w0 w (Pc.all Δ :: Γ)) : Sep w0 w (Γ ++ Δ) := by
  have ha := List.pairwise_cons.1 S.apart
  have h0 : (Pc.all Δ).holds w := S.all _ (List.mem_cons_self ..)
  refine ⟨S.ext, fun p hp => ?_, fun p hp k hk => ?_, List.pairwise_append.2 ⟨ha.2, h0.2, fun p hp q hq k hk hk2 => ha.1 p hp k ⟨q, hq, hk2⟩ hk⟩⟩
  · rcases List.mem_append.1 hp with hp | hp
    · exact S.all p (List.mem_cons_of_mem _ hp)
    · exact h0.1 p hp
  · rcases List.mem_append.1 hp with hp | hp
    · exact S.new p (List.mem_cons_of_mem _ hp) k hk
    · exact S.new _ (List.mem_cons_self ..) k ⟨p, hp, hk⟩
theorem Sep.empties (S : Sep w0 w Γ) (h : ∀ p ∈ Δ, p.holds w ∧ ∀ k, ¬ p.foot k) : Sep w0 w (Γ ++ Δ) := by
  refine ⟨S.ext, fun p hp => ?_, fun p hp k hk => ?_, List.pairwise_append.2 ⟨S.apart, ?_, fun p hp q hq k _ hk2 => (h q hq).2 k hk2⟩⟩
  · rcases List.mem_append.1 hp with hp | hp
    · exact S.all p hp
    · exact (h p hp).1
  · rcases List.mem_append.1 hp with hp | hp
    · exact S.new p hp k hk
    · exact absurd hk ((h p hp).2 k)
  · rw [List.pairwise_iff_getElem]
    intro i j hi hj _ k hk
    exact absurd hk ((h _ (List.getElem_mem hi)).2 k)
end
/-- rows of nothing -/
theorem rowsS_nil (n : Nat) (w : World) (nx : Nat → List Int) (L : List Int) : ∀ p ∈ rowsS n (List.replicate n ⟨none, 0, 0⟩) (labT nx n L 0) (List.replicate n ⟨none, 0, 0⟩) (labT nx n L 0), p.holds w ∧ ∀ k, ¬ p.foot k := by
  intro p hp
  unfold rowsS at hp
  obtain ⟨v, hv, rfl⟩ := List.mem_map.1 hp
  have hv' := List.mem_range.1 hv
  have e1 : nth (List.replicate n (⟨none, 0, 0⟩ : Hd)) v = ⟨none, 0, 0⟩ := by rw [nth_eq (by simpa using hv')]; simp
  have e2 : nth (labT nx n L 0) v = [] := by rw [labT_nth hv']; rfl
  rw [e1, e2]
  refine ⟨⟨World.ownsRow_nil _ _ _ _, Rd.nil _ _ _⟩, fun k hk => ?_⟩
  rcases hk with hk | ⟨h0, _⟩
  · cases hk
  · simp at h0
/-- what was read at the beginning is let go: the rows as they stand are the beginning now -/
theorem rowsS_reset {w0 w : World} {n : Nat} {H0 H : List Hd} {T0 T : SrT} {A B : List Pc} (S : Sep w0 w (A ++ (rowsS n H0 T0 H T ++ B))) : Sep w0 w (A ++ (rowsS n H T H T ++ B)) := by
  have hl : ∀ H0 T0, (rowsS n H0 T0 H T).length = n := fun H0 T0 => by simp [rowsS]
  refine S.weak (by simp [rowsS]) fun i p q hp hq hh => ?_
  by_cases h1 : i < A.length
  · rw [List.getElem?_append_left h1] at hp hq
    rw [hp] at hq; injection hq with hq; subst hq
    exact ⟨hh, fun _ h => h⟩
  · rw [List.getElem?_append_right (by omega)] at hp hq
    by_cases h2 : i - A.length < n
    · rw [rowsS_at h2] at hp hq
      injection hp with hp; injection hq with hq
      subst hp hq
      exact ⟨⟨hh.1, Rd.of_own hh.1 (own_sm hh.1)⟩, fun k hk => by
        rcases hk with hk | ⟨_, hk⟩
        · exact .inl hk
        · exact .inl hk⟩
    · rw [List.getElem?_append_right (by rw [hl]; omega), hl] at hp hq
      rw [hp] at hq; injection hq with hq; subst hq
      exact ⟨hh, fun _ h => h⟩
theorem labI_len (nx : Nat → List Int) (n : Nat) (L : List Int) (k v : Nat) : (labI nx n L k v).length ≤ k := by
  unfold labI
  rw [List.length_map]
  exact Nat.le_trans (List.length_filter_le _ _) (by simp)
theorem labI_sm {nx : Nat → List Int} {n : Nat} {L : List Int} {k v : Nat} (hL : OrdP L n) (hn : n ≤ 200) (hk : k ≤ n) (hv : v < n) : SmH (labI nx n L k v) := fun x hx => by
  obtain ⟨i, hi, h1, rfl⟩ := labI_mem.1 hx
  have h2 := (hubW_iff.1 h1).1
  have h3 := lev_lt (nx := nx) (ord_lt hL (show i < n by omega)) hv
  simp only
  omega
section
variable {α : Type} (a b c d e f g : α) (A B : List α)
theorem pmX (is js : List Nat) (h : is.Perm js) (l : List α) (x : α) : (is.map fun i => l.getD i x).Perm (js.map fun i => l.getD i x) := h.map _
theorem pmA : ((c :: e :: a :: (B ++ [])) ++ (b :: d :: f :: g :: A)).Perm ([a, b, c, d, e, f, g] ++ (A ++ B)) := by
  rw [List.append_nil]
  have h1 : ((c :: e :: a :: B) ++ (b :: d :: f :: g :: A)).Perm ([c, e, a] ++ (([b, d, f, g] ++ A) ++ B)) := List.Perm.append_left [c, e, a] List.perm_append_comm
  refine h1.trans ?_
  have h2 : [c, e, a] ++ (([b, d, f, g] ++ A) ++ B) = [c, e, a, b, d, f, g] ++ (A ++ B) := by simp
  rw [h2]
  exact (pmX [2, 4, 0, 1, 3, 5, 6] [0, 1, 2, 3, 4, 5, 6] (by decide) [a, b, c, d, e, f, g] a).append_right _
theorem pmB : ((c :: d :: b :: (A ++ [])) ++ (a :: e :: f :: g :: B)).Perm ([a, b, c, d, e, f, g] ++ (A ++ B)) := by
  rw [List.append_nil]
  have h1 : ((c :: d :: b :: A) ++ (a :: e :: f :: g :: B)).Perm ([c, d, b] ++ (([a, e, f, g] ++ B) ++ A)) := List.Perm.append_left [c, d, b] List.perm_append_comm
  refine h1.trans ?_
  have h2 : [c, d, b] ++ (([a, e, f, g] ++ B) ++ A) = [c, d, b, a, e, f, g] ++ (B ++ A) := by simp
  rw [h2]
  refine ((pmX [2, 3, 1, 0, 4, 5, 6] [0, 1, 2, 3, 4, 5, 6] (by decide) [a, b, c, d, e, f, g] a).append_right _).trans ?_
  exact List.Perm.append_left _ List.perm_append_comm
theorem pmC : (a :: b :: c :: d :: e :: f :: g :: (A ++ (B ++ []))) = [a, b, c, d, e, f, g] ++ (A ++ B) := by simp
end
section
variable {w0 w : World} {a b c d e f g : Pc} {A B : List Pc}
/-- one side is searched: the other one is put together -/
theorem Sep.toI (S : Sep w0 w (a :: b :: c :: d :: e :: f :: g :: (A ++ (B ++ [])))) : Sep w0 w (c :: e :: a :: Pc.all (b :: d :: f :: g :: A) :: (B ++ [])) := by
  rw [pmC] at S
  have T := Sep.bundle (S.perm (pmA a b c d e f g A B))
  exact T.perm (List.perm_middle (a := Pc.all (b :: d :: f :: g :: A)) (l₁ := [c, e, a]) (l₂ := B ++ []))
theorem Sep.ofI (S : Sep w0 w (c :: e :: a :: Pc.all (b :: d :: f :: g :: A) :: (B ++ []))) : Sep w0 w (a :: b :: c :: d :: e :: f :: g :: (A ++ (B ++ []))) := by
  rw [pmC]
  have T := Sep.unbundle (S.perm (List.perm_middle (a := Pc.all (b :: d :: f :: g :: A)) (l₁ := [c, e, a]) (l₂ := B ++ [])).symm)
  exact T.perm (pmA a b c d e f g A B).symm
theorem Sep.toO (S : Sep w0 w (a :: b :: c :: d :: e :: f :: g :: (A ++ (B ++ [])))) : Sep w0 w (c :: d :: b :: Pc.all (a :: e :: f :: g :: B) :: (A ++ [])) := by
  rw [pmC] at S
  have T := Sep.bundle (S.perm (pmB a b c d e f g A B))
  exact T.perm (List.perm_middle (a := Pc.all (a :: e :: f :: g :: B)) (l₁ := [c, d, b]) (l₂ := A ++ []))
theorem Sep.ofO (S : Sep w0 w (c :: d :: b :: Pc.all (a :: e :: f :: g :: B) :: (A ++ []))) : Sep w0 w (a :: b :: c :: d :: e :: f :: g :: (A ++ (B ++ []))) := by
  rw [pmC]
  have T := Sep.unbundle (S.perm (List.perm_middle (a := Pc.all (a :: e :: f :: g :: B)) (l₁ := [c, d, b]) (l₂ := A ++ [])).symm)
  exact T.perm (pmB a b c d e f g A B).symm
end
end Go.Proofs.YthlmcfbadhidbaaGreat
/- Calls through heap.Interface on the program's places: which method, at which value. -/
namespace Go.Proofs.YthlmcfbadhidbaaGreat
open Go Go.RowKit
theorem wnc (s : String) (a : Addr) (xt : TypeId) (W : World) : (Builtin.ssaWrapNilChk_ #[xt] xt #[.pointer (some a), strVal "", strVal s]).run Tryz.prog W = .ok (.pointer (some a)) W := by kernel_rfl
theorem recvP (s : String) (gb : Nat) (v : Value) (W : World) (h : W.cell? ⟨gb, 0, none⟩ = some v) : (receiverAt 58 (Place.val (.pointer (some ⟨gb, 0, none⟩))) false (some s)).run Tryz.prog W = .ok v W := by
  simp only [receiverAt, Sem.run_bind]
  simp [go_sem, Place.get, wnc, loadVar, h]
theorem mLen (gb : Nat) (v : Value) (W : World) (N : Nat) (hN : 0 < N) (h : W.cell? ⟨gb, 0, none⟩ = some v) : (method N 58 (.pointer (some ⟨gb, 0, none⟩)) "Len").run Tryz.prog W = .ok (166, v) W := by
  obtain ⟨m, rfl⟩ : ∃ m, N = m + 1 := ⟨N - 1, by omega⟩
  obtain ⟨mm, h1⟩ : ∃ mm, Array.find? (fun x => x.name == "Len") (Tryz.t58).methods = some mm := ⟨_, rfl⟩
  have h2 : (Array.find? (fun x => x.name == "Len") (Tryz.t58).methods).map (fun x => (x.path, x.func)) = some (#[], some (166, false)) := by kernel_rfl
  rw [h1] at h2
  simp at h2
  simp [method, go_sem, h1, h2, follow, recvP _ gb v W h]
theorem mLess (gb : Nat) (v : Value) (W : World) (N : Nat) (hN : 0 < N) (h : W.cell? ⟨gb, 0, none⟩ = some v) : (method N 58 (.pointer (some ⟨gb, 0, none⟩)) "Less").run Tryz.prog W = .ok (167, v) W := by
  obtain ⟨m, rfl⟩ : ∃ m, N = m + 1 := ⟨N - 1, by omega⟩
  obtain ⟨mm, h1⟩ : ∃ mm, Array.find? (fun x => x.name == "Less") (Tryz.t58).methods = some mm := ⟨_, rfl⟩
  have h2 : (Array.find? (fun x => x.name == "Less") (Tryz.t58).methods).map (fun x => (x.path, x.func)) = some (#[], some (167, false)) := by kernel_rfl
  rw [h1] at h2
  simp at h2
  simp [method, go_sem, h1, h2, follow, recvP _ gb v W h]
theorem mSwap (gb : Nat) (v : Value) (W : World) (N : Nat) (hN : 0 < N) (h : W.cell? ⟨gb, 0, none⟩ = some v) : (method N 58 (.pointer (some ⟨gb, 0, none⟩)) "Swap").run Tryz.prog W = .ok (170, v) W := by
  obtain ⟨m, rfl⟩ : ∃ m, N = m + 1 := ⟨N - 1, by omega⟩
  obtain ⟨mm, h1⟩ : ∃ mm, Array.find? (fun x => x.name == "Swap") (Tryz.t58).methods = some mm := ⟨_, rfl⟩
  have h2 : (Array.find? (fun x => x.name == "Swap") (Tryz.t58).methods).map (fun x => (x.path, x.func)) = some (#[], some (170, false)) := by kernel_rfl
  rw [h1] at h2
  simp at h2
  simp [method, go_sem, h1, h2, follow, recvP _ gb v W h]
theorem mPush (gb : Nat) (W : World) (N : Nat) (hN : 0 < N) : (method N 58 (.pointer (some ⟨gb, 0, none⟩)) "Push").run Tryz.prog W = .ok (169, .pointer (some ⟨gb, 0, none⟩)) W := by
  obtain ⟨m, rfl⟩ : ∃ m, N = m + 1 := ⟨N - 1, by omega⟩
  kernel_rfl
theorem mPop (gb : Nat) (W : World) (N : Nat) (hN : 0 < N) : (method N 58 (.pointer (some ⟨gb, 0, none⟩)) "Pop").run Tryz.prog W = .ok (168, .pointer (some ⟨gb, 0, none⟩)) W := by
  obtain ⟨m, rfl⟩ : ∃ m, N = m + 1 := ⟨N - 1, by omega⟩
  kernel_rfl
end Go.Proofs.YthlmcfbadhidbaaGreat
/- The library's heap (container/heap) on the program's places: up, down, Push, Pop. -/
namespace Go.Proofs.YthlmcfbadhidbaaGreat
open Go Go.RowKit
attribute [local go_sem] Oper.semAt_some
def hpV (gb : Nat) : Value := .iface 58 (.pointer (some ⟨gb, 0, none⟩))
theorem set_same {Γ : List Pc} {j : Nat} {p : Pc} (h : Γ[j]? = some p) : Γ.set j p = Γ := by
  obtain ⟨h1, h2⟩ := List.getElem?_eq_some_iff.1 h
  rw [← h2, List.set_getElem_self]
theorem swapL_comm {α : Type} [Inhabited α] (X : List α) {i k : Nat} (h : i ≠ k) : swapL X i k = swapL X k i := by
  unfold swapL
  exact List.set_comm _ _ h
set_option maxRecDepth 100000 in
set_option maxHeartbeats 4000000 in
theorem HUp (gb : Nat) (q : Option Addr) (n c i : Nat) (X : List (Int × Int)) (w w0 : World) (Γ : List Pc) (jb j : Nat) (S : Sep w0 w Γ) (hb : Γ[jb]? = some (.blk gb 60 #[.slice q n c])) (hj : Γ[j]? = some (.own 65 2 q n c (encE X))) (hne : jb ≠ j) (hn : n ≤ 100000) (hi : i < n) (hu : UpH ltW n i X) :
    Calls Tryz.prog 66 #[hpV gb, .int .i64 i] w fun e w' => e = .returned (.tuple #[]) ∧ ∃ X' : List (Int × Int), X'.Perm X ∧ HeapN ltW n X' ∧ Sep w0 w' (Γ.set j (.own 65 2 q n c (encE X'))) := by
  unfold hpV
  have hnX : n = X.length := (S.rd j hj (by omega)).nE
  have HNX := Lib.hid hnX
  clear hnX
  have SH := Lib.hid S; clear S
  have HU := Lib.hid hu; clear hu
  go_enter Tryz.func66, Tryz.ntmps66
  go_wp2
  go_loopw [1, 4] (fun v1 _ wr => ∃ (k : Nat) (Y : List (Int × Int)), k < n ∧ v1 = .int .i64 k ∧ Y.Perm X ∧ UpH ltW n k Y ∧ Sep w0 wr (Γ.set j (.own 65 2 q n c (encE Y)))) (fun v1 _ _ => (intOf v1).toNat)
  case atStart => exact ⟨i, X, hi, rfl, List.Perm.refl _, HU.out, by rw [set_same hj]; exact SH.out⟩
  case round =>
    clear SH HU
    obtain ⟨k, Y, hk, rfl, hp, hu, S⟩ := hrel
    have HP := Lib.hid hp
    have HU := Lib.hid hu
    have HYL : Hid (Y.length = n) := by unfold Hid; rw [hp.length_eq]; exact HNX.out.symm
    have hb2 := (List.getElem?_set_ne (l := Γ) (a := Pc.own 65 2 q n c (encE Y)) (i := j) (j := jb) (by omega)).trans hb
    have hj2 := pc_set (q := Pc.own 65 2 q n c (encE Y)) hj
    have HB2 := Lib.hid hb2
    have b0 := (S.blk jb hb2).cell 0
    have ML := fun N hN => mLess gb _ wr N hN b0
    by_cases h0 : k = 0
    · subst h0
      have HE := Lib.hid (up_end hu (.inl rfl))
      have SH := Lib.hid S; clear S
      clear hp hu hb2 hj2
      go_wp2
      go_end0
      exact ⟨rfl, Y, HP.out, HE.out, SH.out⟩
    · obtain ⟨p, hpp⟩ : ∃ p, (k - 1) / 2 = p := ⟨_, rfl⟩
      have hpk : p < k := by omega
      have e1 : ((k:Int) - 1).tdiv 2 = (p:Int) := by
        rw [Int.tdiv_eq_ediv_of_nonneg (by omega)]; omega
      have e2 : ((p:Int) == (k:Int)) = false := by simp; omega
      have hL := HLess q n c Y k p wr (S.rd j hj2 (by omega)) hk (by omega)
      cases hlt : ltW (nth Y k) (nth Y p) with
      | false =>
        rw [hlt] at hL
        have HE := Lib.hid (up_end hu (.inr (by rw [hpp]; exact hlt)))
        have HL := Lib.hid hL
        have SH := Lib.hid S; clear S
        clear hp hu hb2 hj2 hL hlt hpp h0
        go_wp2_with (go_at_call 167; go_must (refine HL.out.mono ?_; rintro e w5 ⟨rfl, h5⟩; have S5 := Lib.hid (SH.out.call h5); have b5 := (S5.out.blk jb HB2.out).cell 0; have MS := fun N hN => mSwap gb _ w5 N hN b5; clear h5))
        go_end0
        exact ⟨rfl, Y, HP.out, HE.out, S5.out⟩
      | true =>
        rw [hlt] at hL
        have HE := Lib.hid (hpp ▸ up_step stoW (by rw [HYL.out]; exact Nat.le_refl _) hk (by omega) hu (by rw [hpp]; exact hlt) : UpH ltW n p (swapL Y k p))
        have HJ2 := Lib.hid hj2
        have HPM := Lib.hid (swapL_perm (X := Y) (i := k) (j := p) (by rw [HYL.out]; exact hk) (by rw [HYL.out]; omega))
        have HL := Lib.hid hL
        have SH := Lib.hid S; clear S
        clear hp hu hb2 hj2 hL hlt hpp h0
        have hkp : p ≠ k := by omega
        go_wp2_with (first
          | (go_at_call 170; go_must (refine (HSwap q n c Y p k w5 w0 _ j S5.out HJ2.out (by omega) hk (by omega)).mono ?_; rintro e w6 ⟨rfl, T⟩; rw [List.set_set, swapL_comm Y hkp] at T; have S6 := Lib.hid T; clear T))
          | (go_at_call 167; go_must (refine HL.out.mono ?_; rintro e w5 ⟨rfl, h5⟩; have S5 := Lib.hid (SH.out.call h5); have b5 := (S5.out.blk jb HB2.out).cell 0; have MS := fun N hN => mSwap gb _ w5 N hN b5; clear h5)))
        go_roundw
        case rel => exact ⟨p, swapL Y k p, by omega, rfl, HPM.out.trans HP.out, HE.out, S6.out⟩
        case measure => simp [intOf]; omega
end Go.Proofs.YthlmcfbadhidbaaGreat
/- The library's heap (container/heap) on the program's places: down. -/
namespace Go.Proofs.YthlmcfbadhidbaaGreat
open Go Go.RowKit
attribute [local go_sem] Oper.semAt_some
set_option maxRecDepth 100000 in
set_option maxHeartbeats 8000000 in
theorem HDown (gb : Nat) (q : Option Addr) (n m c : Nat) (X : List (Int × Int)) (w w0 : World) (Γ : List Pc) (jb j : Nat) (S : Sep w0 w Γ) (hb : Γ[jb]? = some (.blk gb 60 #[.slice q m c])) (hj : Γ[j]? = some (.own 65 2 q m c (encE X))) (hne : jb ≠ j) (hm : m ≤ 100000) (hnm : n ≤ m) (hu : DnH ltW n 0 X) :
    Calls Tryz.prog 67 #[hpV gb, .int .i64 0, .int .i64 n] w fun e w' => ∃ bb, e = .returned (.bool bb) ∧ ∃ X' : List (Int × Int), X'.Perm X ∧ HeapN ltW n X' ∧ (∀ z, n ≤ z → z < m → nth X' z = nth X z) ∧ Sep w0 w' (Γ.set j (.own 65 2 q m c (encE X'))) := by
  unfold hpV
  have hnX : m = X.length := (S.rd j hj (by omega)).nE
  have HNX := Lib.hid hnX
  clear hnX
  have SH := Lib.hid S; clear S
  have HU := Lib.hid hu; clear hu
  go_enter Tryz.func67, Tryz.ntmps67
  go_wp2
  go_loopw [7, 8, 9, 10] (fun v7 _ _ _ wr => ∃ (k : Nat) (Y : List (Int × Int)), k ≤ n ∧ v7 = .int .i64 k ∧ Y.Perm X ∧ DnH ltW n k Y ∧ (∀ z, n ≤ z → z < m → nth Y z = nth X z) ∧ Sep w0 wr (Γ.set j (.own 65 2 q m c (encE Y)))) (fun v7 _ _ _ _ => n - (intOf v7).toNat)
  case atStart => exact ⟨0, X, Nat.zero_le _, rfl, List.Perm.refl _, HU.out, fun _ _ _ => rfl, by rw [set_same hj]; exact SH.out⟩
  case round =>
    clear SH HU
    obtain ⟨k, Y, hk, rfl, hp, hu, ht, S⟩ := hrel
    have HP := Lib.hid hp
    have HU := Lib.hid hu
    have HT := Lib.hid ht
    have HYL : Hid (Y.length = m) := by unfold Hid; rw [hp.length_eq]; exact HNX.out.symm
    have HB2 := Lib.hid ((List.getElem?_set_ne (l := Γ) (a := Pc.own 65 2 q m c (encE Y)) (i := j) (j := jb) (by omega)).trans hb)
    have HJ2 := Lib.hid (pc_set (q := Pc.own 65 2 q m c (encE Y)) hj)
    have b0 := (S.blk jb HB2.out).cell 0
    have ML := fun N hN => mLess gb _ wr N hN b0
    obtain ⟨a, ha⟩ : ∃ a, 2 * k + 1 = a := ⟨_, rfl⟩
    have e1 : 2 * (k:Int) + 1 = (a:Int) := by omega
    have e2 : decide ((a:Int) < 0) = false := by simp
    clear hp hu ht
    by_cases hA : n ≤ a
    · have d1 : decide ((n:Int) ≤ a) = true := by simp; omega
      have HE := Lib.hid (dn_leaf HU.out (by omega))
      have SH := Lib.hid S; clear S
      have d1n : decide (n ≤ a) = true := by simpa using hA
      clear ha
      go_wp2
      go_ret
      exact ⟨_, rfl, Y, HP.out, HE.out, HT.out, SH.out⟩
    · have d1 : decide ((n:Int) ≤ a) = false := by simp; omega
      obtain ⟨b, hb'⟩ : ∃ b, 2 * k + 2 = b := ⟨_, rfl⟩
      have e3 : (a:Int) + 1 = (b:Int) := by omega
      by_cases hB : b < n
      · have d2 : decide ((b:Int) < n) = true := by simp; omega
        have hL1 := HLess q m c Y b a wr (S.rd j HJ2.out (by omega)) (by omega) (by omega)
        cases hl1 : ltW (nth Y b) (nth Y a) with
        | false =>
          rw [hl1] at hL1
          have HL1 := Lib.hid hL1
          obtain ⟨d, hd⟩ : ∃ d, d = a := ⟨_, rfl⟩
          have HLC := Lib.hid (least_one stoW (n := n) (j := k) (X := Y) (by omega) (.inr (by rw [ha, hb']; exact hl1)))
          rw [ha] at HLC
          have SH := Lib.hid S; clear S
          obtain rfl := hd
          clear hl1 hL1
          cases hlt : ltW (nth Y d) (nth Y k) with
          | false =>
            have HE := Lib.hid (dn_end stoW HU.out HLC.out hlt)
            have HL2 : Hid (∀ W, Ext wr W → Calls Tryz.prog 167 #[.slice q m c, .int .i64 d, .int .i64 k] W fun e w' => e = .returned (.bool false) ∧ Ext W w') := fun W h => hlt ▸ HLess q m c Y d k W ((SH.out.rd j HJ2.out (by omega)).ext h) (by omega) (by omega)
            clear hlt
            go_wp2_with (first | (go_at_call 167; have _t := S5; go_must (refine (HL2.out _ X5.out).mono ?_; rintro e w6 ⟨rfl, h6⟩; have S6 := Lib.hid (S5.out.call h6); have b6 := (S6.out.blk jb HB2.out).cell 0; have MS := fun N hN => mSwap gb _ w6 N hN b6; clear h6)) | (go_at_call 167; have _t := HL1; go_must (refine HL1.out.mono ?_; rintro e w5 ⟨rfl, h5⟩; have S5 := Lib.hid (SH.out.call h5); have X5 := Lib.hid h5; have b5 := (S5.out.blk jb HB2.out).cell 0; have ML5 := fun N hN => mLess gb _ w5 N hN b5; clear h5)))
            go_ret
            exact ⟨_, rfl, Y, HP.out, HE.out, HT.out, S6.out⟩
          | true =>
            have HE := Lib.hid (dn_step stoW (by rw [HYL.out]; exact hnm) HU.out HLC.out hlt)
            have HL2 : Hid (∀ W, Ext wr W → Calls Tryz.prog 167 #[.slice q m c, .int .i64 d, .int .i64 k] W fun e w' => e = .returned (.bool true) ∧ Ext W w') := fun W h => hlt ▸ HLess q m c Y d k W ((SH.out.rd j HJ2.out (by omega)).ext h) (by omega) (by omega)
            have HPM := Lib.hid (swapL_perm (X := Y) (i := k) (j := d) (by rw [HYL.out]; omega) (by rw [HYL.out]; omega))
            have HT2 : Hid (∀ z, n ≤ z → z < m → nth (swapL Y k d) z = nth X z) := fun z h1 h2 => by rw [swapL_nth (by rw [HYL.out]; exact h2), if_neg (by omega), if_neg (by omega)]; exact HT.out z h1 h2
            clear hlt
            go_wp2_with (first | (go_at_call 170; go_must (refine (HSwap q m c Y k d w6 w0 _ j S6.out HJ2.out (by omega) (by omega) (by omega)).mono ?_; rintro e w7 ⟨rfl, T⟩; rw [List.set_set] at T; have S7 := Lib.hid T; clear T)) | (go_at_call 167; have _t := S5; go_must (refine (HL2.out _ X5.out).mono ?_; rintro e w6 ⟨rfl, h6⟩; have S6 := Lib.hid (S5.out.call h6); have b6 := (S6.out.blk jb HB2.out).cell 0; have MS := fun N hN => mSwap gb _ w6 N hN b6; clear h6)) | (go_at_call 167; have _t := HL1; go_must (refine HL1.out.mono ?_; rintro e w5 ⟨rfl, h5⟩; have S5 := Lib.hid (SH.out.call h5); have X5 := Lib.hid h5; have b5 := (S5.out.blk jb HB2.out).cell 0; have ML5 := fun N hN => mLess gb _ w5 N hN b5; clear h5)))
            go_roundw
            case rel => exact ⟨d, swapL Y k d, by omega, rfl, HPM.out.trans HP.out, HE.out, HT2.out, S7.out⟩
            case measure => simp [intOf]; omega
        | true =>
          rw [hl1] at hL1
          have HL1 := Lib.hid hL1
          have HLC := Lib.hid (least_two stoW (n := n) (j := k) (X := Y) (by omega) (by rw [ha, hb']; exact hl1))
          rw [hb'] at HLC
          obtain ⟨d, hd⟩ : ∃ d, d = b := ⟨_, rfl⟩
          have SH := Lib.hid S; clear S
          obtain rfl := hd
          clear hl1 hL1
          cases hlt : ltW (nth Y d) (nth Y k) with
          | false =>
            have HE := Lib.hid (dn_end stoW HU.out HLC.out hlt)
            have HL2 : Hid (∀ W, Ext wr W → Calls Tryz.prog 167 #[.slice q m c, .int .i64 d, .int .i64 k] W fun e w' => e = .returned (.bool false) ∧ Ext W w') := fun W h => hlt ▸ HLess q m c Y d k W ((SH.out.rd j HJ2.out (by omega)).ext h) (by omega) (by omega)
            clear hlt
            go_wp2_with (first | (go_at_call 167; have _t := S5; go_must (refine (HL2.out _ X5.out).mono ?_; rintro e w6 ⟨rfl, h6⟩; have S6 := Lib.hid (S5.out.call h6); have b6 := (S6.out.blk jb HB2.out).cell 0; have MS := fun N hN => mSwap gb _ w6 N hN b6; clear h6)) | (go_at_call 167; have _t := HL1; go_must (refine HL1.out.mono ?_; rintro e w5 ⟨rfl, h5⟩; have S5 := Lib.hid (SH.out.call h5); have X5 := Lib.hid h5; have b5 := (S5.out.blk jb HB2.out).cell 0; have ML5 := fun N hN => mLess gb _ w5 N hN b5; clear h5)))
            go_ret
            exact ⟨_, rfl, Y, HP.out, HE.out, HT.out, S6.out⟩
          | true =>
            have HE := Lib.hid (dn_step stoW (by rw [HYL.out]; exact hnm) HU.out HLC.out hlt)
            have HL2 : Hid (∀ W, Ext wr W → Calls Tryz.prog 167 #[.slice q m c, .int .i64 d, .int .i64 k] W fun e w' => e = .returned (.bool true) ∧ Ext W w') := fun W h => hlt ▸ HLess q m c Y d k W ((SH.out.rd j HJ2.out (by omega)).ext h) (by omega) (by omega)
            have HPM := Lib.hid (swapL_perm (X := Y) (i := k) (j := d) (by rw [HYL.out]; omega) (by rw [HYL.out]; omega))
            have HT2 : Hid (∀ z, n ≤ z → z < m → nth (swapL Y k d) z = nth X z) := fun z h1 h2 => by rw [swapL_nth (by rw [HYL.out]; exact h2), if_neg (by omega), if_neg (by omega)]; exact HT.out z h1 h2
            clear hlt
            go_wp2_with (first | (go_at_call 170; go_must (refine (HSwap q m c Y k d w6 w0 _ j S6.out HJ2.out (by omega) (by omega) (by omega)).mono ?_; rintro e w7 ⟨rfl, T⟩; rw [List.set_set] at T; have S7 := Lib.hid T; clear T)) | (go_at_call 167; have _t := S5; go_must (refine (HL2.out _ X5.out).mono ?_; rintro e w6 ⟨rfl, h6⟩; have S6 := Lib.hid (S5.out.call h6); have b6 := (S6.out.blk jb HB2.out).cell 0; have MS := fun N hN => mSwap gb _ w6 N hN b6; clear h6)) | (go_at_call 167; have _t := HL1; go_must (refine HL1.out.mono ?_; rintro e w5 ⟨rfl, h5⟩; have S5 := Lib.hid (SH.out.call h5); have X5 := Lib.hid h5; have b5 := (S5.out.blk jb HB2.out).cell 0; have ML5 := fun N hN => mLess gb _ w5 N hN b5; clear h5)))
            go_roundw
            case rel => exact ⟨d, swapL Y k d, by omega, rfl, HPM.out.trans HP.out, HE.out, HT2.out, S7.out⟩
            case measure => simp [intOf]; omega
      · have d2 : decide ((b:Int) < n) = false := by simp; omega
        have HLC := Lib.hid (least_one stoW (n := n) (j := k) (X := Y) (by omega) (.inl (by omega)))
        rw [ha] at HLC
        obtain ⟨d, hd⟩ : ∃ d, d = a := ⟨_, rfl⟩
        have SH := Lib.hid S; clear S
        have S5 := Lib.hid SH.out
        have X5 : Hid (Ext wr wr) := Below.refl _ _
        obtain rfl := hd
        cases hlt : ltW (nth Y d) (nth Y k) with
        | false =>
          have HE := Lib.hid (dn_end stoW HU.out HLC.out hlt)
          have HL2 : Hid (∀ W, Ext wr W → Calls Tryz.prog 167 #[.slice q m c, .int .i64 d, .int .i64 k] W fun e w' => e = .returned (.bool false) ∧ Ext W w') := fun W h => hlt ▸ HLess q m c Y d k W ((SH.out.rd j HJ2.out (by omega)).ext h) (by omega) (by omega)
          clear hlt
          go_wp2_with (first | (go_at_call 167; have _t := S5; go_must (refine (HL2.out _ X5.out).mono ?_; rintro e w6 ⟨rfl, h6⟩; have S6 := Lib.hid (S5.out.call h6); have b6 := (S6.out.blk jb HB2.out).cell 0; have MS := fun N hN => mSwap gb _ w6 N hN b6; clear h6)) | (go_at_call 167; have _t := HL1; go_must (refine HL1.out.mono ?_; rintro e w5 ⟨rfl, h5⟩; have S5 := Lib.hid (SH.out.call h5); have X5 := Lib.hid h5; have b5 := (S5.out.blk jb HB2.out).cell 0; have ML5 := fun N hN => mLess gb _ w5 N hN b5; clear h5)))
          go_ret
          exact ⟨_, rfl, Y, HP.out, HE.out, HT.out, S6.out⟩
        | true =>
          have HE := Lib.hid (dn_step stoW (by rw [HYL.out]; exact hnm) HU.out HLC.out hlt)
          have HL2 : Hid (∀ W, Ext wr W → Calls Tryz.prog 167 #[.slice q m c, .int .i64 d, .int .i64 k] W fun e w' => e = .returned (.bool true) ∧ Ext W w') := fun W h => hlt ▸ HLess q m c Y d k W ((SH.out.rd j HJ2.out (by omega)).ext h) (by omega) (by omega)
          have HPM := Lib.hid (swapL_perm (X := Y) (i := k) (j := d) (by rw [HYL.out]; omega) (by rw [HYL.out]; omega))
          have HT2 : Hid (∀ z, n ≤ z → z < m → nth (swapL Y k d) z = nth X z) := fun z h1 h2 => by rw [swapL_nth (by rw [HYL.out]; exact h2), if_neg (by omega), if_neg (by omega)]; exact HT.out z h1 h2
          clear hlt
          go_wp2_with (first | (go_at_call 170; go_must (refine (HSwap q m c Y k d w6 w0 _ j S6.out HJ2.out (by omega) (by omega) (by omega)).mono ?_; rintro e w7 ⟨rfl, T⟩; rw [List.set_set] at T; have S7 := Lib.hid T; clear T)) | (go_at_call 167; have _t := S5; go_must (refine (HL2.out _ X5.out).mono ?_; rintro e w6 ⟨rfl, h6⟩; have S6 := Lib.hid (S5.out.call h6); have b6 := (S6.out.blk jb HB2.out).cell 0; have MS := fun N hN => mSwap gb _ w6 N hN b6; clear h6)) | (go_at_call 167; have _t := HL1; go_must (refine HL1.out.mono ?_; rintro e w5 ⟨rfl, h5⟩; have S5 := Lib.hid (SH.out.call h5); have X5 := Lib.hid h5; have b5 := (S5.out.blk jb HB2.out).cell 0; have ML5 := fun N hN => mLess gb _ w5 N hN b5; clear h5)))
          go_roundw
          case rel => exact ⟨d, swapL Y k d, by omega, rfl, HPM.out.trans HP.out, HE.out, HT2.out, S7.out⟩
          case measure => simp [intOf]; omega
end Go.Proofs.YthlmcfbadhidbaaGreat
/- The library's heap (container/heap) on the program's places: Push, Pop. -/
namespace Go.Proofs.YthlmcfbadhidbaaGreat
open Go Go.RowKit
attribute [local go_sem] Oper.semAt_some
theorem set_two {Γ : List Pc} {j jb : Nat} (h : j ≠ jb) (a a' b : Pc) : ((Γ.set j a).set jb b).set j a' = (Γ.set j a').set jb b := by
  rw [List.set_comm _ _ h, List.set_set, List.set_comm _ _ (fun e => h e.symm)]
theorem heap_snoc {n : Nat} {X : List (Int × Int)} {x : Int × Int} (hn : n = X.length) (h : HeapN ltW n X) : UpH ltW (n + 1) n (X ++ [x]) := by
  refine up_start fun i h0 h1 => ?_
  rw [nth_append_left _ _ _ (by omega), nth_append_left _ _ _ (by omega)]
  exact h i h0 h1
set_option maxRecDepth 100000 in
set_option maxHeartbeats 4000000 in
theorem HeapPush (gb : Nat) (q : Option Addr) (n c : Nat) (X : List (Int × Int)) (x : Int × Int) (w w0 : World) (Γ : List Pc) (jb j : Nat) (S : Sep w0 w Γ) (hb : Γ[jb]? = some (.blk gb 60 #[.slice q n c])) (hj : Γ[j]? = some (.own 65 2 q n c (encE X))) (hne : jb ≠ j) (hn : n ≤ 90000) (hh : HeapN ltW n X) :
    Calls Tryz.prog 41 #[hpV gb, plV x] w fun e w' => e = .returned (.tuple #[]) ∧ ∃ (q' : Option Addr) (c' : Nat) (X' : List (Int × Int)), X'.Perm (X ++ [x]) ∧ HeapN ltW (n + 1) X' ∧ Sep w0 w' ((Γ.set j (.own 65 2 q' (n + 1) c' (encE X'))).set jb (.blk gb 60 #[.slice q' (n + 1) c'])) := by
  have HU := Lib.hid (heap_snoc (x := x) (S.rd j hj (by omega)).nE hh)
  have HPU := Lib.hid (HPush gb q n c X x w w0 Γ jb j S hb hj hne (by omega))
  have MP := fun W N hN => mPush gb W N hN
  have HUP := Lib.hid (fun q1 c1 w1 S1 => HUp gb q1 (n + 1) c1 n (X ++ [x]) w1 w0 ((Γ.set j (.own 65 2 q1 (n + 1) c1 (encE (X ++ [x])))).set jb (.blk gb 60 #[.slice q1 (n + 1) c1])) jb j S1 (pc_set (p := .blk gb 60 #[.slice q n c]) (by rw [List.getElem?_set_ne (fun e => hne e.symm)]; exact hb)) (by rw [List.getElem?_set_ne hne]; exact pc_set hj) hne (by omega) (by omega) HU.out)
  have HB := Lib.hid (fun q1 c1 => (pc_set (p := .blk gb 60 #[.slice q n c]) (q := .blk gb 60 #[.slice q1 (n + 1) c1]) (by rw [List.getElem?_set_ne (fun e => hne e.symm)]; exact hb) : ((Γ.set j (.own 65 2 q1 (n + 1) c1 (encE (X ++ [x])))).set jb (.blk gb 60 #[.slice q1 (n + 1) c1]))[jb]? = some _))
  clear S hb hj hh
  unfold hpV plV
  go_enter Tryz.func41, Tryz.ntmps41
  go_wp2_with (first
    | (go_at_call 66; go_must (refine (HUP.out q1 c1 w1 S1.out).mono ?_; rintro e w2 ⟨rfl, X', k1, k2, k3⟩; rw [set_two (fun e => hne e.symm)] at k3; have K1 := Lib.hid k1; have K2 := Lib.hid k2; have S2 := Lib.hid k3; clear k1 k2 k3))
    | (go_at_call 166; go_must (refine (HLen _ _ _ _ (by omega)).mono ?_; rintro e wl ⟨rfl, hw⟩; have hw := hw.symm; subst hw))
    | (go_at_call 169; go_must (refine HPU.out.mono ?_; rintro e w1 ⟨rfl, q1, c1, T⟩; have b1 := (T.blk jb (HB.out q1 c1)).cell 0; have ML := fun N hN => mLen gb _ w1 N hN b1; have S1 := Lib.hid T; clear T)))
  go_end0
  exact ⟨rfl, q1, c1, X', K1.out, K2.out, S2.out⟩
set_option maxRecDepth 100000 in
set_option maxHeartbeats 4000000 in
theorem HeapPop (gb : Nat) (q : Option Addr) (n c : Nat) (X : List (Int × Int)) (w w0 : World) (Γ : List Pc) (jb j : Nat) (S : Sep w0 w Γ) (hb : Γ[jb]? = some (.blk gb 60 #[.slice q (n + 1) c])) (hj : Γ[j]? = some (.own 65 2 q (n + 1) c (encE X))) (hne : jb ≠ j) (hn : n ≤ 90000) (hh : HeapN ltW (n + 1) X) :
    Calls Tryz.prog 42 #[hpV gb] w fun e w' => e = .returned (plV (nth X 0)) ∧ ∃ X' : List (Int × Int), (nth X 0 :: X').Perm X ∧ HeapN ltW n X' ∧ Sep w0 w' ((Γ.set j (.own 65 2 q n c (encE X'))).set jb (.blk gb 60 #[.slice q n c])) := by
  have hnX := (S.rd j hj (by omega)).nE
  have HNX := Lib.hid hnX
  have b0 := (S.blk jb hb).cell 0
  have ML := fun N hN => mLen gb _ w N hN b0
  have MS := fun N hN => mSwap gb _ w N hN b0
  have MP := fun W N hN => mPop gb W N hN
  have HSW := Lib.hid (HSwap q (n + 1) c X 0 n w w0 Γ j S hj (by omega) (by omega) (by omega))
  have HDN := Lib.hid (fun w1 S1 => HDown gb q n (n + 1) c (swapL X 0 n) w1 w0 (Γ.set j (.own 65 2 q (n + 1) c (encE (swapL X 0 n)))) jb j S1 (by rw [List.getElem?_set_ne (fun e => hne e.symm)]; exact hb) (pc_set hj) hne (by omega) (by omega) (dn_start hnX.symm hh))
  have HPO := Lib.hid (fun w2 Y S2 => HPop gb q n c Y w2 w0 (Γ.set j (.own 65 2 q (n + 1) c (encE Y))) jb j S2 (by rw [List.getElem?_set_ne (fun e => hne e.symm)]; exact hb) (pc_set hj) hne (by omega))
  have HN0 : Hid (nth (swapL X 0 n) n = nth X 0) := by unfold Hid; rw [swapL_nth (by omega), if_pos rfl]
  have HPM := Lib.hid (swapL_perm (X := X) (i := 0) (j := n) (by omega) (by omega))
  clear S hb hj hh hnX
  unfold hpV
  go_enter Tryz.func42, Tryz.ntmps42
  go_wp2_with (first
    | (go_at_call 168; go_must (refine (HPO.out w2 X' S2.out).mono ?_; rintro e w3 ⟨rfl, T⟩; rw [List.set_set] at T; have S3 := Lib.hid T; clear T))
    | (go_at_call 67; go_must (refine (HDN.out w1 S1.out).mono ?_; rintro e w2 ⟨bb, rfl, X', k1, k2, k3, k4⟩; rw [List.set_set] at k4; have K1 := Lib.hid k1; have K2 := Lib.hid k2; have K3 := Lib.hid (k3 n (Nat.le_refl _) (by omega)); have S2 := Lib.hid k4; clear k1 k2 k3 k4))
    | (go_at_call 170; go_must (refine HSW.out.mono ?_; rintro e w1 ⟨rfl, T⟩; have S1 := Lib.hid T; clear T))
    | (go_at_call 166; go_must (refine (HLen _ _ _ _ (by omega)).mono ?_; rintro e wl ⟨rfl, hw⟩; have hw := hw.symm; subst hw)))
  go_ret
  have e0 : nth X' n = nth X 0 := K3.out.trans HN0.out
  refine ⟨by rw [e0]; rfl, X'.take n, ?_, heap_take K2.out ?_, S3.out⟩
  · exact pop_perm HNX.out.symm (K1.out.trans HPM.out) e0
  · rw [K1.out.length_eq, HPM.out.length_eq, ← HNX.out]; omega
end Go.Proofs.YthlmcfbadhidbaaGreat
/- The program's order of places (chapter 11): By. -/
namespace Go.Proofs.YthlmcfbadhidbaaGreat
open Go Go.RowKit
attribute [local go_sem] Oper.semAt_some
theorem rd_one (w : World) (y : Int × Int) : Rd ((w.alloc (.cells #[.int .i64 y.1, .int .i64 y.2] 65)).alloc (.cells #[.int .i64 y.1] 3)) 1 (some ⟨w.heap.size + 1, 0, none⟩) 1 (encI [y.1]) := by
  have h := Rd.oneI (w.alloc (.cells #[.int .i64 y.1, .int .i64 y.2] 65)) 3 y.1
  have e : (w.alloc (.cells #[.int .i64 y.1, .int .i64 y.2] 65)).heap.size = w.heap.size + 1 := by simp
  rw [e] at h; exact h
def lenV : Value → Nat
  | .slice _ n _ => n
  | _ => 0
theorem ways_bd {O T R V : List Int} (hck : checkR O T R V = true) {n v : Nat} (hno : O.length = n + 1) (hv : v < n) :
    R.length = n + 1 ∧ (0 ≤ nth O v ∧ nth O v ≤ nth O (v + 1) ∧ nth O (v + 1) ≤ 2000) ∧ (0 ≤ nth R v ∧ nth R v ≤ nth R (v + 1) ∧ nth R (v + 1) ≤ 2000) := by
  obtain ⟨e1, e2, e3, e4⟩ := checkR_half hck
  have a := offOk_of (halfB_off e3)
  have b := offOk_of (halfB_off e4)
  have r1 := offB_parts (halfB_off e3)
  have r2 := offB_parts (halfB_off e4)
  have hR : R.length = n + 1 := by omega
  have := a.lo v (by omega)
  have := a.le v (by omega)
  have := a.hi (v + 1) (by omega)
  have := b.lo v (by omega)
  have := b.le v (by omega)
  have := b.hi (v + 1) (by omega)
  exact ⟨hR, ⟨by omega, by omega, by omega⟩, by omega, by omega, by omega⟩
theorem way_rng {O T R V : List Int} (hck : checkR O T R V = true) {n v : Nat} (hno : O.length = n + 1) (hv : v < n) : 0 ≤ wayN O R v ∧ wayN O R v ≤ 4000 := by
  have := ways_bd hck hno hv
  unfold wayN; omega
set_option maxRecDepth 100000 in
set_option maxHeartbeats 8000000 in
theorem ByG_yes (po : Option Addr) (no co : Nat) (O : List Int) (pt : Option Addr) (nt ct : Nat) (T : List Int) (pr : Option Addr) (nr cr : Nat) (R : List Int) (pv : Option Addr) (nv cv : Nat) (V : List Int) (n : Nat) (w : World) (hO : Rd w 1 po no (encI O)) (hT : Rd w 1 pt nt (encI T)) (hR : Rd w 1 pr nr (encI R)) (hV : Rd w 1 pv nv (encI V)) (hct : nt ≤ ct) (hcv : nv ≤ cv) (hck : checkR O T R V = true) (hno : O.length = n + 1) :
    Calls Tryz.prog 13 #[.agg #[.slice po no co, .slice pt nt ct, .slice pr nr cr, .slice pv nv cv]] w fun e w' => ∃ q c, e = .returned (.tuple #[.slice q (byL O R n).length c, .int .i64 0]) ∧ Sep w w' [.own 3 1 q (byL O R n).length c (encI (byL O R n))] := by
  obtain ⟨i0, hi0, hz0, hz1, hz2⟩ := info_parts infI
  have HC := Lib.hid (fun W1 (h : Ext w W1) => CheckR po no co O pt nt ct T pr nr cr R pv nv cv V W1 (hO.ext h) (hT.ext h) (hR.ext h) (hV.ext h) hct hcv)
  rw [hck] at HC
  have S0 := Lib.hid ((Sep.start w).al #[.slice po no co, .slice pt nt ct, .slice pr nr cr, .slice pv nv cv] 24 w.heap.size rfl)
  have l1 := hO.nI
  have l2 := hR.nI
  have pA := hO.ptr
  have pB := hR.ptr
  have r := offB_parts (halfB_off (checkR_half hck).2.2.1)
  have hn : n ≤ 200 := by omega
  have HNO : Hid (no = n + 1) := by unfold Hid; omega
  have HW := Lib.hid (fun v (hv : v < n) => ways_bd hck hno hv)
  have HNR : Hid (∀ v, v < n → nr = n + 1) := fun v hv => by have := (ways_bd hck hno hv).1; omega
  have HRNG := Lib.hid (fun v (hv : v < n) => way_rng hck hno hv)
  have hno1 : 1 ≤ no := by omega
  have hno2 : no ≤ 201 := by omega
  have HO := Lib.hid hO; clear hO
  have HR := Lib.hid hR; clear hR
  clear hT hV hct hcv hck l1 l2 r hno
  go_enter Tryz.func13, Tryz.ntmps13
  go_wp2_with (go_at_call 40; go_must (refine (HC.out _ S0.out.ext).mono ?_; rintro e w1 ⟨rfl, hb⟩; have S1 := Lib.hid (S0.out.call hb); have xz := (S1.out.blk 0 rfl).lt; have x0 := (S1.out.blk 0 rfl).cell 0; have x1 := (S1.out.blk 0 rfl).cell 1; have x2 := (S1.out.blk 0 rfl).cell 2; have x3 := (S1.out.blk 0 rfl).cell 3; clear hb))
  have S2 := Lib.hid (((S1.out.alrw #[] 65 2 0 w1.heap.size rfl (by decide) rfl).al #[.slice (some ⟨w1.heap.size, 0, none⟩) 0 0] 60 (w1.heap.size + 1) (by simp)).pick [1, 0, 2] (by decide) rfl)
  generalize (w1.alloc (.cells #[] 65)).alloc (.cells #[.slice (some ⟨w1.heap.size, 0, none⟩) 0 0] 60) = w2 at *
  generalize hq0 : (some ⟨w1.heap.size, 0, none⟩ : Option Addr) = q0 at *
  generalize hgb : w1.heap.size + 1 = gb at *
  clear hq0 hgb
  go_loopw [5, 19] (fun _ i wr => ∃ (k : Nat) (q : Option Addr) (c : Nat) (X : List (Int × Int)), k ≤ n ∧ i = .int .i64 k ∧ X.Perm (waysP O R k) ∧ HeapN ltW k X ∧ Sep w wr [.own 65 2 q k c (encE X), .blk gb 60 #[.slice q k c], .blk w.heap.size 24 #[.slice po no co, .slice pt nt ct, .slice pr nr cr, .slice pv nv cv]]) (fun _ i _ => n - (intOf i).toNat)
  case atStart => exact ⟨0, q0, 0, [], Nat.zero_le _, rfl, List.Perm.refl _, fun i h0 h1 => by omega, S2.out⟩
  case round =>
    clear S0 S1 S2 HC x0 x1 x2 x3 xz
    obtain ⟨k, q, c, X, hk, rfl, hp, hh, S⟩ := hrel
    have az := (S.blk 2 rfl).lt; have a0 := (S.blk 2 rfl).cell 0; have a1 := (S.blk 2 rfl).cell 1; have a2 := (S.blk 2 rfl).cell 2; have a3 := (S.blk 2 rfl).cell 3
    by_cases hlt : k < n
    · have d1 : decide ((k:Int) < (no:Int) - 1) = true := by have := HNO.out; simp; omega
      obtain ⟨_, hb1, hb2⟩ := HW.out k hlt
      have hnr := HNR.out k hlt
      have g1 := S.ext.cell (HO.out.cI (k := k) (by have := HNO.out; omega))
      have g2 := S.ext.cell (HO.out.cI (k := k + 1) (by have := HNO.out; omega))
      have g3 := S.ext.cell (HR.out.cI (k := k) (by omega))
      have g4 := S.ext.cell (HR.out.cI (k := k + 1) (by omega))
      have e1 : (0:Int) ≤ k := by omega
      have e2 : (k:Int) < no := by have := HNO.out; omega
      have e3 : (0:Int) ≤ (k:Int) + 1 := by omega
      have e4 : (k:Int) + 1 < no := by have := HNO.out; omega
      have e5 : (k:Int) < nr := by omega
      have e6 : (k:Int) + 1 < nr := by omega
      have HX := Lib.hid (waysP_step O R k)
      unfold wayN at HX
      generalize nth O k = o0 at *
      generalize nth O (k + 1) = o1 at *
      generalize nth R k = r0 at *
      generalize nth R (k + 1) = r1 at *
      have HPU := Lib.hid (fun W (T : Sep w W [.own 65 2 q k c (encE X), .blk gb 60 #[.slice q k c], .blk w.heap.size 24 #[.slice po no co, .slice pt nt ct, .slice pr nr cr, .slice pv nv cv]]) => HeapPush gb q k c X ((k:Int), o1 - o0 + r1 - r0) W w _ 1 0 T rfl rfl (by decide) (by omega) hh)
      unfold hpV plV at HPU
      have HP := Lib.hid hp
      have hn200 : k < 200 := by omega
      clear hp hh hnr
      have SH := Lib.hid S; clear S
      go_wp2
      have u0 := fun x : ExtOf wr => x.ext.cell a0
      have u1 := fun x : ExtOf wr => x.ext.cell a1
      have u2 := fun x : ExtOf wr => x.ext.cell a2
      have u3 := fun x : ExtOf wr => x.ext.cell a3
      have v1 := fun x : ExtOf wr => x.ext.cell g1
      have v2 := fun x : ExtOf wr => x.ext.cell g2
      have v3 := fun x : ExtOf wr => x.ext.cell g3
      have v4 := fun x : ExtOf wr => x.ext.cell g4
      refine wp_region_mix [true, true, true, true, true, true, true, true, true, true, true, true, true, true, true, true, true, true, true, true, true, true, true, true, true, true, true, true, true] (fun _ _ _ => True) (by kernel_rfl) (by kernel_rfl) (by kernel_rfl) (fun _ _ _ _ _ _ => trivial) ?_
      simp only [nfM]
      repeat (go_big_quiet_step ((fail)))
      refine wpQuiet_nil ⟨trivial, fun vs W1 hE hkn => ?_⟩
      clear hkn
      have S4 := Lib.hid (SH.out.call hE)
      clear u0 u1 u2 u3 v1 v2 v3 v4 a0 a1 a2 a3 az g1 g2 g3 g4
      simp only [putM, List.length_cons, List.length_nil, Nat.zero_add, Nat.reduceAdd, List.drop_succ_cons, List.drop_zero]
      try simp [Act.put]
      go_wp2_with (go_at_call 41; go_must (refine (HPU.out _ S4.out).mono ?_; rintro e w5 ⟨rfl, q', c', X', k1, k2, T⟩; have K1 := Lib.hid k1; have K2 := Lib.hid k2; have S5 := Lib.hid T; clear k1 k2 T))
      go_roundw
      case rel => exact ⟨k + 1, q', c', X', by omega, by go_num, by rw [HX.out]; exact K1.out.trans (HP.out.append_right _), K2.out, S5.out⟩
      case measure => simp [intOf]; omega
    · obtain rfl : k = n := by omega
      have d1 : decide ((k:Int) < (no:Int) - 1) = false := by have := HNO.out; simp; omega
      have HND := Lib.hid (waysP_nodup O R k)
      have HP := Lib.hid hp
      have HH := Lib.hid hh
      have TA := fun (x : Int × Int) W => taPlace x.1 x.2 W
      have SH := Lib.hid S; clear S
      clear hp hh a0 a1 a2 a3 az pA pB
      go_wp2
      go_loopw [6, 7, 8] (fun v6 _ _ wr => ∃ (out : List (Int × Int)) (ql : Option Addr) (cl m : Nat) (q2 : Option Addr) (c2 : Nat) (Y : List (Int × Int)), v6 = .slice ql out.length cl ∧ (out ++ Y).Perm (waysP O R k) ∧ Rises ltW out ∧ (∀ a ∈ out, ∀ b ∈ Y, ltW b a = false) ∧ HeapN ltW m Y ∧ Sep w wr [.own 3 1 ql out.length cl (encI (out.map (·.1))), .own 65 2 q2 m c2 (encE Y), .blk gb 60 #[.slice q2 m c2]]) (fun v6 _ _ _ => k - lenV v6)
      case atStart => exact ⟨[], none, 0, k, q, c, X, rfl, HP.out, List.Pairwise.nil, fun _ h => (nomatch h), HH.out, (SH.out.nilrow 3 1).pick [0, 1, 2] (by decide) rfl⟩
      case round =>
        clear SH HP HH
        obtain ⟨out, ql, cl, m, q2, c2, Y, rfl, hp, hr, hle, hh, S⟩ := hrel
        have hmY := (S.rdx 1 rfl).nE
        have hlen : out.length + m = k := by have := hp.length_eq; rw [List.length_append, waysP_len] at this; omega
        have b0 := (S.blk 2 rfl).cell 0
        have ML := fun N hN => mLen gb _ wr N hN b0
        by_cases hm : m = 0
        · subst hm
          have hY : Y = [] := List.eq_nil_of_length_eq_zero hmY.symm
          subst hY
          rw [List.append_nil] at hp
          have hb := by_uniq (fun v hv => HRNG.out v hv) hr hp
          have HB : Hid (out.map (·.1) = byL O R k) := by unfold Hid byL; rw [hb]
          have HOL : Hid (out.length = (byL O R k).length) := by unfold Hid byL; rw [hb, List.length_map]
          clear hp hr hle hh hb hlen hmY
          have SJ := Lib.hid S; clear S
          go_wp2_with (go_at_call 166; go_must (refine (HLen _ _ _ _ (by omega)).mono ?_; rintro e wl ⟨rfl, hw⟩; have hw := hw.symm; subst hw))
          go_ret2
          exact ⟨ql, cl, by rw [← HOL.out]; rfl, by rw [← HOL.out, ← HB.out]; exact SJ.out.pick [0] (by decide) rfl⟩
        · obtain ⟨m', rfl⟩ : ∃ m', m = m' + 1 := ⟨m - 1, by omega⟩
          have d2 : decide ((0:Int) < (m':Int) + 1) = true := by simp; try omega
          have hmin := heap_min stoW hh
          have HPO := Lib.hid (fun W (T : Sep w W [.own 3 1 ql out.length cl (encI (out.map (·.1))), .own 65 2 q2 (m' + 1) c2 (encE Y), .blk gb 60 #[.slice q2 (m' + 1) c2]]) => HeapPop gb q2 m' c2 Y W w _ 2 1 T rfl rfl (by decide) (by omega) hh)
          unfold hpV plV at HPO
          have HRS : Hid (∀ Y', (nth Y 0 :: Y').Perm Y → ((out ++ [nth Y 0]) ++ Y').Perm (waysP O R k) ∧ Rises ltW (out ++ [nth Y 0]) ∧ ∀ a ∈ out ++ [nth Y 0], ∀ b ∈ Y', ltW b a = false) := fun Y' h => pops_rise stoW hp HND.out hr hle h fun b hb => by
            obtain ⟨i, hi, e⟩ := List.getElem_of_mem hb
            rw [← e, ← nth_eq hi]; exact hmin i (by omega)
          generalize nth Y 0 = y at *
          clear hp hr hle hh hmin hmY hm
          have SJ := Lib.hid S; clear S
          go_wp2_with (first
            | (at_builtin; go_must (refine wpList_append_sep rfl _ _ _ rfl 3 i0 _ 1 8 Tryz.underlying22 hi0 hz0 hz1 hz2 rfl (by omega) ((S5.out.junk _).junk _) 0 ql out.length cl _ rfl rfl _ 1 1 _ rfl HR1.out (one_encI _) (by omega) (by omega) ?_; intro q6 c6 w6 S' hsz; have S6 := Lib.hid S'; clear S' hsz))
            | (go_at_call 42; go_must (refine (HPO.out _ SJ.out).mono ?_; rintro e w5 ⟨rfl, Y', k1, k2, T⟩; have K1 := Lib.hid k1; have K2 := Lib.hid k2; have S5 := Lib.hid T; have HR1 := Lib.hid (rd_one w5 y); clear k1 k2 T))
            | (go_at_call 166; go_must (refine (HLen _ _ _ _ (by omega)).mono ?_; rintro e wl ⟨rfl, hw⟩; have hw := hw.symm; subst hw)))
          go_roundw
          case rel =>
            obtain ⟨r1, r2, r3⟩ := HRS.out Y' K1.out
            exact ⟨out ++ [y], q6, c6, m', q2, c2, Y', by rw [List.length_append]; rfl, r1, r2, r3, K2.out, by rw [List.length_append, List.map_append, encI_append]; exact S6.out⟩
          case measure => simp [lenV]; omega
def byC (ck : Bool) : Int := if ck = true then 0 else 40
def byR (ck : Bool) (O R : List Int) : List Int := if ck = true then byL O R (O.length - 1) else []
/-- whatever is asked -/
theorem ByG (po : Option Addr) (no co : Nat) (O : List Int) (pt : Option Addr) (nt ct : Nat) (T : List Int) (pr : Option Addr) (nr cr : Nat) (R : List Int) (pv : Option Addr) (nv cv : Nat) (V : List Int) (w : World) (hO : Rd w 1 po no (encI O)) (hT : Rd w 1 pt nt (encI T)) (hR : Rd w 1 pr nr (encI R)) (hV : Rd w 1 pv nv (encI V)) (hct : nt ≤ ct) (hcv : nv ≤ cv) : Calls Tryz.prog 13 #[.agg #[.slice po no co, .slice pt nt ct, .slice pr nr cr, .slice pv nv cv]] w fun e w' => ∃ q c, e = .returned (.tuple #[.slice q (byR (checkR O T R V) O R).length c, .int .i64 (byC (checkR O T R V))]) ∧ Sep w w' [.own 3 1 q (byR (checkR O T R V) O R).length c (encI (byR (checkR O T R V) O R))] := by
  cases hck : checkR O T R V with
  | true =>
    have r := offB_parts (halfB_off (checkR_half hck).2.2.1)
    have e : byR true O R = byL O R (O.length - 1) := rfl
    rw [e]
    exact ByG_yes po no co O pt nt ct T pr nr cr R pv nv cv V (O.length - 1) w hO hT hR hV hct hcv hck (by omega)
  | false =>
    have HC := Lib.hid (fun W1 (h : Ext w W1) => CheckR po no co O pt nt ct T pr nr cr R pv nv cv V W1 (hO.ext h) (hT.ext h) (hR.ext h) (hV.ext h) hct hcv)
    rw [hck] at HC
    have S0 := Lib.hid ((Sep.start w).al #[.slice po no co, .slice pt nt ct, .slice pr nr cr, .slice pv nv cv] 24 w.heap.size rfl)
    clear hO hT hR hV hct hcv hck
    go_enter Tryz.func13, Tryz.ntmps13
    go_wp2_with (go_at_call 40; go_must (refine (HC.out _ S0.out.ext).mono ?_; rintro e w1 ⟨rfl, hb⟩; have S1 := Lib.hid (S0.out.call hb); have xz := (S1.out.blk 0 rfl).lt; have x0 := (S1.out.blk 0 rfl).cell 0; have x1 := (S1.out.blk 0 rfl).cell 1; have x2 := (S1.out.blk 0 rfl).cell 2; have x3 := (S1.out.blk 0 rfl).cell 3; clear hb))
    go_ret2
    exact ⟨none, 0, rfl, ((Sep.start w).call S1.out.ext).nilrow _ _⟩
end Go.Proofs.YthlmcfbadhidbaaGreat
/- The program's labels (chapter 12): Build. -/
namespace Go.Proofs.YthlmcfbadhidbaaGreat
open Go Go.RowKit
theorem reg_mono {α : Type} {P : Program} {c : Code} {Q : Exit → Act → World → Prop} {a : Act} {w : World} (F : α → Act → Act) (R : α → World → Prop)
    (h : c.wp P (fun e a' w' => e = .normal ∧ ∃ x, a' = F x a ∧ R x w') a w) (k : ∀ x w', R x w' → Q .normal (F x a) w') : c.wp P Q a w :=
  Code.wp_mono (fun e a' w' ⟨he, x, ha, hr⟩ => by subst he ha; exact k x w' hr) h
theorem infHits : ((Tryz.prog).info? 52).map (fun i => (i.zero, i.size, i.bytes)) = some (some (.slice none 0 0), 1, 24) := by kernel_rfl
theorem infLbl : ((Tryz.prog).info? 42).map (fun i => (i.zero, i.size, i.bytes)) = some (some (.agg #[.slice none 0 0, .slice none 0 0]), 2, 48) := by kernel_rfl
theorem madeH (n : Nat) : (madeCells #[Value.slice none 0 0] n).toList = encH (List.replicate n ⟨none, 0, 0⟩) := by
  apply List.ext_getElem
  · simp [madeCells, encH]
  · intro i h1 h2
    simp [madeCells, Nat.mod_one, encH, Hd.v]
set_option maxRecDepth 100000 in
set_option maxHeartbeats 16000000 in
theorem BuildG_yes (po : Option Addr) (no co : Nat) (O : List Int) (pt : Option Addr) (nt ct : Nat) (T : List Int) (pr : Option Addr) (nr cr : Nat) (R : List Int) (pv : Option Addr) (nv cv : Nat) (V : List Int) (n : Nat) (w : World) (hO : Rd w 1 po no (encI O)) (hT : Rd w 1 pt nt (encI T)) (hR : Rd w 1 pr nr (encI R)) (hV : Rd w 1 pv nv (encI V)) (hct : nt ≤ ct) (hcv : nv ≤ cv) (hck : checkR O T R V = true) (hno : O.length = n + 1) :
    Calls Tryz.prog 26 #[.agg #[.slice po no co, .slice pt nt ct, .slice pr nr cr, .slice pv nv cv]] w fun e w' => ∃ qO cO qI cI HO HI, e = .returned (.tuple #[.agg #[.slice qO n cO, .slice qI n cI], .int .i64 0]) ∧ Sep w w' (.own 52 1 qO n cO (encH HO) :: .own 52 1 qI n cI (encH HI) :: (rowsS n HO (labT (rowL R V) n (byL O R n) n) HO (labT (rowL R V) n (byL O R n) n) ++ (rowsS n HI (labT (rowL O T) n (byL O R n) n) HI (labT (rowL O T) n (byL O R n) n) ++ []))) := by
  obtain ⟨i0, hi0, hz0, hz1, hz2⟩ := info_parts infHits
  have HC := Lib.hid (fun W1 (h : Ext w W1) => CheckR po no co O pt nt ct T pr nr cr R pv nv cv V W1 (hO.ext h) (hT.ext h) (hR.ext h) (hV.ext h) hct hcv)
  rw [hck] at HC
  have hby := fun W1 (h : Ext w W1) => ByG po no co O pt nt ct T pr nr cr R pv nv cv V W1 (hO.ext h) (hT.ext h) (hR.ext h) (hV.ext h) hct hcv
  have hbr : byR (checkR O T R V) O R = byL O R n := by rw [hck]; unfold byR; rw [if_pos rfl, hno]; rfl
  have hOP := byL_ord (O := O) (R := R) (n := n) fun v hv => way_rng hck hno hv
  rw [hbr, hck, hOP.1, show byC true = 0 from rfl] at hby
  have HBY := Lib.hid hby
  obtain ⟨e1, e2, e3, e4⟩ := checkR_half hck
  have r := offB_parts (halfB_off e3)
  have hn : n ≤ 200 := by omega
  have hn1 : 1 ≤ n := by omega
  have S0 := Lib.hid (((Sep.start w).al #[.slice po no co, .slice pt nt ct, .slice pr nr cr, .slice pv nv cv] 24 w.heap.size rfl).al #[.slice none 0 0, .slice none 0 0] 42 (w.heap.size + 1) (by simp))
  clear hby
  have HOP := Lib.hid hOP
  have HRE := Lib.hid (show Rev (rowL O T) (rowL R V) n by have := nxR_rev hck false; rw [hno] at this; exact this)
  have HINA := Lib.hid (show ∀ v, v < n → ∀ x ∈ rowL O T v, ∃ u : Nat, x = u ∧ u < n by
    intro v hv x hx
    have := row_in e3
    rw [hno] at this
    have := this v hv x hx
    exact ⟨x.toNat, by omega, by omega⟩)
  have HINB := Lib.hid (show ∀ v, v < n → ∀ x ∈ rowL R V v, ∃ u : Nat, x = u ∧ u < n by
    intro v hv x hx
    have := row_in e4
    rw [← e1, hno] at this
    have := this v hv x hx
    exact ⟨x.toNat, by omega, by omega⟩)
  have HNA := Lib.hid (fun gr W (h : Ext w W) (hB : Blk W gr 24 #[.slice po no co, .slice pt nt ct, .slice pr nr cr, .slice pv nv cv]) k (hk : k < n) => next1Gr po no co O pt nt ct T pr nr cr R pv nv cv V gr k W (hO.ext h) (hT.ext h) (offOk_of (halfB_off e3)) hct (by omega) hB)
  have HNB := Lib.hid (fun gr W (h : Ext w W) (hB : Blk W gr 24 #[.slice po no co, .slice pt nt ct, .slice pr nr cr, .slice pv nv cv]) k (hk : k < n) => next3Gr po no co O pt nt ct T pr nr cr R pv nv cv V gr k W (hR.ext h) (hV.ext h) (offOk_of (halfB_off e4)) hcv (by omega) hB)
  clear hO hT hR hV hct hcv hck hno hOP e1 e2 e3 e4 r hbr
  generalize rowL O T = nak at *
  generalize rowL R V = nbk at *
  generalize byL O R n = L at *
  go_enter Tryz.func26, Tryz.ntmps26
  go_wp2_with (first | (go_at_call 13; go_must (refine (HBY.out _ S1.out.ext).mono ?_; rintro e w2 ⟨q2, c2, rfl, Z⟩; have S2 := Lib.hid (S1.out.comp Z); clear Z)) | (go_at_call 40; go_must (refine (HC.out _ S0.out.ext).mono ?_; rintro e w1 ⟨rfl, hb⟩; have S1 := Lib.hid (S0.out.call hb); have xz := (S1.out.blk 1 rfl).lt; have x0 := (S1.out.blk 1 rfl).cell 0; have x1 := (S1.out.blk 1 rfl).cell 1; have x2 := (S1.out.blk 1 rfl).cell 2; have x3 := (S1.out.blk 1 rfl).cell 3; clear hb)))
  have HRH := Lib.hid (S2.out.rdx 0 rfl)
  have HBB := Lib.hid (S2.out.blk 2 rfl)
  refine reg_mono (α := Nat × Option Addr × Option Addr) (fun x a => (((((a.put (some 29) (.int .i64 n)).put (some 30) (.slice x.2.1 n n)).put (some 31) (.int .i64 n)).put (some 32) (.slice x.2.2 n n)).put (some 33) (.agg #[.slice x.2.1 n n, .slice x.2.2 n n])).put (some 7) (.pointer (some ⟨x.1, 0, none⟩))) (fun x w' => Sep w2 w' [.blk x.1 42 #[.slice x.2.1 n n, .slice x.2.2 n n], .own 52 1 x.2.1 n n (encH (List.replicate n ⟨none, 0, 0⟩)), .own 52 1 x.2.2 n n (encH (List.replicate n ⟨none, 0, 0⟩))]) ?_ ?_
  · have b1 : (0:Int) ≤ n := by omega
    have b2 : (n:Int) * 24 ≤ 281474976710656 := by omega
    have hmk : ∀ W : World, (Instr.makeSlice 40 (.int .i64 (n:Int)) (.int .i64 (n:Int))).run Tryz.prog W = .ok (.slice (some ⟨W.heap.size, 0, none⟩) n n) (W.alloc (.cells (madeCells #[.slice none 0 0] n) 52)) := fun W => run_make_row' (P := Tryz.prog) (w := W) 40 52 (.slice none 0 0) 24 Tryz.underlying40 infHits rfl .i64 .i64 n (by omega) (by omega)
    clear HBY HC S0 S1 xz x0 x1 x2 x3
    go_region
    · (refine ⟨rfl, (w2.heap.size + 1 + 1, some ⟨w2.heap.size, 0, none⟩, some ⟨w2.heap.size + 1, 0, none⟩), by simp [Act.put], ?_⟩; have T := Sep.drew ((((Sep.start w2).alrow (madeCells #[.slice none 0 0] n) 52 1 n w2.heap.size (by simp) (by unfold maxLen; omega) (by simp [madeCells])).alrow (madeCells #[.slice none 0 0] n) 52 1 n (w2.heap.size + 1) (by simp) (by unfold maxLen; omega) (by simp [madeCells])).al #[.slice (some ⟨w2.heap.size, 0, none⟩) n n, .slice (some ⟨w2.heap.size + 1, 0, none⟩) n n] 42 (w2.heap.size + 1 + 1) (by simp)); rw [madeH] at T; exact T.pick [0, 2, 1] (by decide) rfl)
    · (refine ⟨rfl, (w2.heap.size + 1, some ⟨w2.heap.size, 0, none⟩, some ⟨w2.heap.size + 1 + 1, 0, none⟩), by simp [Act.put], ?_⟩; have T := Sep.drew ((((Sep.start w2).alrow (madeCells #[.slice none 0 0] n) 52 1 n w2.heap.size (by simp) (by unfold maxLen; omega) (by simp [madeCells])).al #[.slice (some ⟨w2.heap.size, 0, none⟩) n n, .slice (some ⟨w2.heap.size + 1 + 1, 0, none⟩) n n] 42 (w2.heap.size + 1) (by simp)).alrow (madeCells #[.slice none 0 0] n) 52 1 n (w2.heap.size + 1 + 1) (by simp) (by unfold maxLen; omega) (by simp [madeCells])); rw [madeH] at T; exact T.pick [1, 2, 0] (by decide) rfl)
    · (refine ⟨rfl, (w2.heap.size + 1 + 1, some ⟨w2.heap.size + 1, 0, none⟩, some ⟨w2.heap.size, 0, none⟩), by simp [Act.put], ?_⟩; have T := Sep.drew ((((Sep.start w2).alrow (madeCells #[.slice none 0 0] n) 52 1 n w2.heap.size (by simp) (by unfold maxLen; omega) (by simp [madeCells])).alrow (madeCells #[.slice none 0 0] n) 52 1 n (w2.heap.size + 1) (by simp) (by unfold maxLen; omega) (by simp [madeCells])).al #[.slice (some ⟨w2.heap.size + 1, 0, none⟩) n n, .slice (some ⟨w2.heap.size, 0, none⟩) n n] 42 (w2.heap.size + 1 + 1) (by simp)); rw [madeH] at T; exact T.pick [0, 1, 2] (by decide) rfl)
    · (refine ⟨rfl, (w2.heap.size + 1, some ⟨w2.heap.size + 1 + 1, 0, none⟩, some ⟨w2.heap.size, 0, none⟩), by simp [Act.put], ?_⟩; have T := Sep.drew ((((Sep.start w2).alrow (madeCells #[.slice none 0 0] n) 52 1 n w2.heap.size (by simp) (by unfold maxLen; omega) (by simp [madeCells])).al #[.slice (some ⟨w2.heap.size + 1 + 1, 0, none⟩) n n, .slice (some ⟨w2.heap.size, 0, none⟩) n n] 42 (w2.heap.size + 1) (by simp)).alrow (madeCells #[.slice none 0 0] n) 52 1 n (w2.heap.size + 1 + 1) (by simp) (by unfold maxLen; omega) (by simp [madeCells])); rw [madeH] at T; exact T.pick [1, 0, 2] (by decide) rfl)
    · (refine ⟨rfl, (w2.heap.size, some ⟨w2.heap.size + 1, 0, none⟩, some ⟨w2.heap.size + 1 + 1, 0, none⟩), by simp [Act.put], ?_⟩; have T := Sep.drew ((((Sep.start w2).al #[.slice (some ⟨w2.heap.size + 1, 0, none⟩) n n, .slice (some ⟨w2.heap.size + 1 + 1, 0, none⟩) n n] 42 w2.heap.size (by simp)).alrow (madeCells #[.slice none 0 0] n) 52 1 n (w2.heap.size + 1) (by simp) (by unfold maxLen; omega) (by simp [madeCells])).alrow (madeCells #[.slice none 0 0] n) 52 1 n (w2.heap.size + 1 + 1) (by simp) (by unfold maxLen; omega) (by simp [madeCells])); rw [madeH] at T; exact T.pick [2, 1, 0] (by decide) rfl)
    · (refine ⟨rfl, (w2.heap.size, some ⟨w2.heap.size + 1 + 1, 0, none⟩, some ⟨w2.heap.size + 1, 0, none⟩), by simp [Act.put], ?_⟩; have T := Sep.drew ((((Sep.start w2).al #[.slice (some ⟨w2.heap.size + 1 + 1, 0, none⟩) n n, .slice (some ⟨w2.heap.size + 1, 0, none⟩) n n] 42 w2.heap.size (by simp)).alrow (madeCells #[.slice none 0 0] n) 52 1 n (w2.heap.size + 1) (by simp) (by unfold maxLen; omega) (by simp [madeCells])).alrow (madeCells #[.slice none 0 0] n) 52 1 n (w2.heap.size + 1 + 1) (by simp) (by unfold maxLen; omega) (by simp [madeCells])); rw [madeH] at T; exact T.pick [2, 0, 1] (by decide) rfl)
  · rintro ⟨gl, qO, qI⟩ w3 S3'
    have S3 := Lib.hid S3'
    clear S3'
    have b0 := (S3.out.blk 0 rfl).cell 0
    have b1 := (S3.out.blk 0 rfl).cell 1
    have S4 : Hid (Sep w2 ((w3.alloc (.cells #[.func (.func 47) #[] #[.pointer (some ⟨w.heap.size, 0, none⟩)], .func (.func 48) #[] #[.pointer (some ⟨gl, 0, none⟩)]] 83)).alloc (.cells #[.func (.func 49) #[] #[.pointer (some ⟨w.heap.size, 0, none⟩)], .func (.func 50) #[] #[.pointer (some ⟨gl, 0, none⟩)]] 83)) (.blk gl 42 #[.slice qO n n, .slice qI n n] :: .own 52 1 qO n n (encH (List.replicate n ⟨none, 0, 0⟩)) :: .own 52 1 qI n n (encH (List.replicate n ⟨none, 0, 0⟩)) :: .blk w3.heap.size 83 #[.func (.func 47) #[] #[.pointer (some ⟨w.heap.size, 0, none⟩)], .func (.func 48) #[] #[.pointer (some ⟨gl, 0, none⟩)]] :: .blk (w3.heap.size + 1) 83 #[.func (.func 49) #[] #[.pointer (some ⟨w.heap.size, 0, none⟩)], .func (.func 50) #[] #[.pointer (some ⟨gl, 0, none⟩)]] :: (rowsS n (List.replicate n ⟨none, 0, 0⟩) (labT nbk n L 0) (List.replicate n ⟨none, 0, 0⟩) (labT nbk n L 0) ++ (rowsS n (List.replicate n ⟨none, 0, 0⟩) (labT nak n L 0) (List.replicate n ⟨none, 0, 0⟩) (labT nak n L 0) ++ [])))) := by
      have T := ((S3.out.al #[.func (.func 47) #[] #[.pointer (some ⟨w.heap.size, 0, none⟩)], .func (.func 48) #[] #[.pointer (some ⟨gl, 0, none⟩)]] 83 w3.heap.size rfl).al #[.func (.func 49) #[] #[.pointer (some ⟨w.heap.size, 0, none⟩)], .func (.func 50) #[] #[.pointer (some ⟨gl, 0, none⟩)]] 83 (w3.heap.size + 1) (by simp)).pick [2, 3, 4, 1, 0] (by decide) rfl
      exact T.empties (fun p hp => by
        rcases List.mem_append.1 hp with hp | hp
        · exact rowsS_nil n _ nbk L p hp
        · rw [List.append_nil] at hp
          exact rowsS_nil n _ nak L p hp)
    try simp [Act.put]
    go_wp2
    generalize (w3.alloc (.cells #[.func (.func 47) #[] #[.pointer (some ⟨w.heap.size, 0, none⟩)], .func (.func 48) #[] #[.pointer (some ⟨gl, 0, none⟩)]] 83)).alloc (.cells #[.func (.func 49) #[] #[.pointer (some ⟨w.heap.size, 0, none⟩)], .func (.func 50) #[] #[.pointer (some ⟨gl, 0, none⟩)]] 83) = w5 at *
    clear S3 b0 b1
    go_loopw [11, 12, 13, 42] (fun _ _ _ i wr => ∃ (k : Nat) (HO HI : List Hd), k ≤ n ∧ i = .int .i64 k ∧ HO.length = n ∧ HI.length = n ∧ Sep w2 wr (.blk gl 42 #[.slice qO n n, .slice qI n n] :: .own 52 1 qO n n (encH HO) :: .own 52 1 qI n n (encH HI) :: .blk w3.heap.size 83 #[.func (.func 47) #[] #[.pointer (some ⟨w.heap.size, 0, none⟩)], .func (.func 48) #[] #[.pointer (some ⟨gl, 0, none⟩)]] :: .blk (w3.heap.size + 1) 83 #[.func (.func 49) #[] #[.pointer (some ⟨w.heap.size, 0, none⟩)], .func (.func 50) #[] #[.pointer (some ⟨gl, 0, none⟩)]] :: (rowsS n HO (labT nbk n L k) HO (labT nbk n L k) ++ (rowsS n HI (labT nak n L k) HI (labT nak n L k) ++ [])))) (fun _ _ _ i _ => n - (intOf i).toNat)
    case atStart => exact ⟨0, _, _, Nat.zero_le _, rfl, by simp, by simp, S4.out⟩
    case round =>
      clear S4
      obtain ⟨k, HO, HI, hk, rfl, hHO, hHI, S⟩ := hrel
      have b0 := (S.blk 0 rfl).cell 0
      have b1 := (S.blk 0 rfl).cell 1
      have bz := (S.blk 0 rfl).lt
      by_cases hlt : k < n
      · obtain ⟨h, hh⟩ : ∃ h : Nat, nth L k = (h:Int) := ⟨(nth L k).toNat, (ord_int HOP.out hlt).symm⟩
        have hhn : h < n := by have := ord_lt HOP.out hlt; rw [hh, Int.toNat_natCast] at this; exact this
        have g1 := S.ext.cell (HRH.out.cI hlt)
        rw [hh] at g1
        have gO := (S.rdx 1 rfl).cH hhn
        have gI := (S.rdx 2 rfl).cH hhn
        have pH := HRH.out.ptr
        have pO := (S.rdx 1 rfl).ptr
        have pI := (S.rdx 2 rfl).ptr
        have zO := World.block_lt_of_cell? wr _ gO
        have zI := World.block_lt_of_cell? wr _ gI
        have d1 : (0:Int) ≤ k := by omega
        have d2 : (k:Int) < n := by omega
        have d3 : (0:Int) ≤ h := by omega
        have d4 : (h:Int) < n := by omega
        have HH := Lib.hid hh
        clear hh
        obtain ⟨hO', ho'⟩ : ∃ x, nth HO h = x := ⟨_, rfl⟩
        obtain ⟨hI', hi'⟩ : ∃ x, nth HI h = x := ⟨_, rfl⟩
        rw [ho'] at gO
        rw [hi'] at gI
        have HOO := Lib.hid ho'
        have HII := Lib.hid hi'
        clear ho' hi'
        obtain ⟨ap, an, ac⟩ := hO'
        obtain ⟨bp, bn, bc⟩ := hI'
        simp only at gO gI
        simp at b0 b1
        have SK := Lib.hid S; clear S
        go_wp2
        refine reg_mono (α := Nat × Nat) (fun x a => ((((((((((((a.put (some 46) (.pointer (some ⟨gl, 0, none⟩))).put (some 47) (.slice qO n n)).put (some 48) (.int .i64 h)).put (some 49) (.pointer (some (adr qO h)))).put (some 50) (.slice ap an ac)).put (some 51) (.pointer (some ⟨gl, 1, none⟩))).put (some 52) (.slice qI n n)).put (some 53) (.int .i64 h)).put (some 54) (.pointer (some (adr qI h)))).put (some 55) (.slice bp bn bc)).put (some 12) (.pointer (some ⟨x.1, 0, none⟩))).put (some 13) (.pointer (some ⟨x.2, 0, none⟩)))) (fun x w' => Sep w2 w' (.blk x.1 52 #[.slice ap an ac] :: .blk x.2 52 #[.slice bp bn bc] :: (.blk gl 42 #[.slice qO n n, .slice qI n n] :: .own 52 1 qO n n (encH HO) :: .own 52 1 qI n n (encH HI) :: .blk w3.heap.size 83 #[.func (.func 47) #[] #[.pointer (some ⟨w.heap.size, 0, none⟩)], .func (.func 48) #[] #[.pointer (some ⟨gl, 0, none⟩)]] :: .blk (w3.heap.size + 1) 83 #[.func (.func 49) #[] #[.pointer (some ⟨w.heap.size, 0, none⟩)], .func (.func 50) #[] #[.pointer (some ⟨gl, 0, none⟩)]] :: (rowsS n HO (labT nbk n L k) HO (labT nbk n L k) ++ (rowsS n HI (labT nak n L k) HI (labT nak n L k) ++ []))))) ?_ ?_
        · refine wp_region_held_drew (S := fun w' => w'.cell? ⟨gl, 0, none⟩ = some (.slice qO n n) ∧ w'.cell? ⟨gl, 1, none⟩ = some (.slice qI n n) ∧ w'.cell? (adr qO h) = some (.slice ap an ac) ∧ w'.cell? (adr qI h) = some (.slice bp bn bc)) (by kernel_rfl) (by (try dsimp only); go_keep) (fun hHeld => ?_)
          refine wpAnyH_take (i := 0) (v := .pointer (some ⟨gl, 0, none⟩)) rfl (by kernel_rfl) (by kernel_rfl) (by kernel_rfl) (fun _ _ _ h => by cases h.1) (Or.inl ⟨by rfl, fun W hSw => by obtain ⟨h1, h2, h3, h4⟩ := hSw; go_simp⟩) hHeld ?_
          refine wpAnyH_take (i := 1) (v := .slice qO n n) rfl (by kernel_rfl) (by kernel_rfl) (by kernel_rfl) (fun _ _ _ h => by cases h.1) (Or.inl ⟨by rfl, fun W hSw => by obtain ⟨h1, h2, h3, h4⟩ := hSw; go_simp⟩) hHeld ?_
          refine wpAnyH_take (i := 2) (v := .int .i64 h) rfl (by kernel_rfl) (by kernel_rfl) (by kernel_rfl) (fun _ _ _ h => by cases h.1) (Or.inl ⟨by rfl, fun W hSw => by obtain ⟨h1, h2, h3, h4⟩ := hSw; go_simp⟩) hHeld ?_
          refine wpAnyH_take (i := 3) (v := .pointer (some (adr qO h))) rfl (by kernel_rfl) (by kernel_rfl) (by kernel_rfl) (fun _ _ _ h => by cases h.1) (Or.inl ⟨by rfl, fun W hSw => by obtain ⟨h1, h2, h3, h4⟩ := hSw; go_simp⟩) hHeld ?_
          refine wpAnyH_take (i := 4) (v := .slice ap an ac) rfl (by kernel_rfl) (by kernel_rfl) (by kernel_rfl) (fun _ _ _ h => by cases h.1) (Or.inl ⟨by rfl, fun W hSw => by obtain ⟨h1, h2, h3, h4⟩ := hSw; go_simp⟩) hHeld ?_
          refine wpAnyH_take (i := 5) (v := .pointer (some ⟨gl, 1, none⟩)) rfl (by kernel_rfl) (by kernel_rfl) (by kernel_rfl) (fun _ _ _ h => by cases h.1) (Or.inl ⟨by rfl, fun W hSw => by obtain ⟨h1, h2, h3, h4⟩ := hSw; go_simp⟩) hHeld ?_
          refine wpAnyH_take (i := 6) (v := .slice qI n n) rfl (by kernel_rfl) (by kernel_rfl) (by kernel_rfl) (fun _ _ _ h => by cases h.1) (Or.inl ⟨by rfl, fun W hSw => by obtain ⟨h1, h2, h3, h4⟩ := hSw; go_simp⟩) hHeld ?_
          refine wpAnyH_take (i := 7) (v := .int .i64 h) rfl (by kernel_rfl) (by kernel_rfl) (by kernel_rfl) (fun _ _ _ h => by cases h.1) (Or.inl ⟨by rfl, fun W hSw => by obtain ⟨h1, h2, h3, h4⟩ := hSw; go_simp⟩) hHeld ?_
          refine wpAnyH_take (i := 8) (v := .pointer (some (adr qI h))) rfl (by kernel_rfl) (by kernel_rfl) (by kernel_rfl) (fun _ _ _ h => by cases h.1) (Or.inl ⟨by rfl, fun W hSw => by obtain ⟨h1, h2, h3, h4⟩ := hSw; go_simp⟩) hHeld ?_
          refine wpAnyH_take (i := 9) (v := .slice bp bn bc) rfl (by kernel_rfl) (by kernel_rfl) (by kernel_rfl) (fun _ _ _ h => by cases h.1) (Or.inl ⟨by rfl, fun W hSw => by obtain ⟨h1, h2, h3, h4⟩ := hSw; go_simp⟩) hHeld ?_
          refine wpAnyH_ready (rs := [10, 11]) (by kernel_rfl) (by simp) (AllReadyH.cons rfl (fun K hK => ?_) (AllReadyH.cons rfl (fun K hK => ?_) AllReadyH.nil))
          · go_simp
            refine hK.out _ _ (by (try dsimp only); go_keep) (fun hHeld => ?_)
            clear hK
            refine wpAnyH_ready (rs := [11]) (by kernel_rfl) (by simp) (AllReadyH.cons rfl (fun K hK => ?_) AllReadyH.nil)
            go_simp
            refine hK.out _ _ (by (try dsimp only); go_keep) (fun hHeld => ?_)
            clear hK
            refine wpAnyH_ready (rs := [12]) (by kernel_rfl) (by simp) (AllReadyH.cons rfl (fun K hK => ?_) AllReadyH.nil)
            go_simp
            refine hK.out _ _ (by (try dsimp only); go_keep) (fun hHeld => ?_)
            clear hK
            refine wpAnyH_ready (rs := [13]) (by kernel_rfl) (by simp) (AllReadyH.cons rfl (fun K hK => ?_) AllReadyH.nil)
            go_simp
            refine hK.out _ _ (by (try dsimp only); go_keep) (fun hHeld => ?_)
            clear hK
            refine wpAnyH_done (by kernel_rfl) ?_ _
            refine ⟨rfl, (wr.heap.size, wr.heap.size + 1), by simp [Act.put], ?_⟩
            exact (((SK.out.al #[.slice ap an ac] 52 wr.heap.size rfl).al #[.slice bp bn bc] 52 (wr.heap.size + 1) (by simp)).drew).perm (List.Perm.swap _ _ _)
          · go_simp
            refine hK.out _ _ (by (try dsimp only); go_keep) (fun hHeld => ?_)
            clear hK
            refine wpAnyH_ready (rs := [10]) (by kernel_rfl) (by simp) (AllReadyH.cons rfl (fun K hK => ?_) AllReadyH.nil)
            go_simp
            refine hK.out _ _ (by (try dsimp only); go_keep) (fun hHeld => ?_)
            clear hK
            refine wpAnyH_ready (rs := [12]) (by kernel_rfl) (by simp) (AllReadyH.cons rfl (fun K hK => ?_) AllReadyH.nil)
            go_simp
            refine hK.out _ _ (by (try dsimp only); go_keep) (fun hHeld => ?_)
            clear hK
            refine wpAnyH_ready (rs := [13]) (by kernel_rfl) (by simp) (AllReadyH.cons rfl (fun K hK => ?_) AllReadyH.nil)
            go_simp
            refine hK.out _ _ (by (try dsimp only); go_keep) (fun hHeld => ?_)
            clear hK
            refine wpAnyH_done (by kernel_rfl) ?_ _
            refine ⟨rfl, (wr.heap.size + 1, wr.heap.size), by simp [Act.put], ?_⟩
            exact ((SK.out.al #[.slice bp bn bc] 52 wr.heap.size rfl).al #[.slice ap an ac] 52 (wr.heap.size + 1) (by simp)).drew
        · rintro ⟨ga, gb⟩ w6 S6'
          have S6 := Lib.hid S6'
          have y0 := (S6'.blk 5 rfl).cell 0
          have y1 := (S6'.blk 5 rfl).cell 1
          have yz := (S6'.blk 5 rfl).lt
          clear S6' SK b0 b1 bz gO gI pO pI zO zI g1 pH
          simp at y0 y1
          have hR := HRE.out
          have hR2 : Rev nbk nak n := fun u v hu hv => (hR v u hv hu).symm
          have hto : (nth L k).toNat = h := by rw [HH.out, Int.toNat_natCast]
          have HXI := Lib.hid (label_search hR HOP.out HINA.out hlt)
          have HXO := Lib.hid (label_search hR2 HOP.out HINB.out hlt)
          have HSI := Lib.hid (label_step (nx := nak) HOP.out hlt)
          have HSO := Lib.hid (label_step (nx := nbk) HOP.out hlt)
          rw [hto] at HXI HXO HSI HSO
          have hcm : (fun (row : List (Int × Int)) (d : Int) => nearB (leastV (labI nak n L k h) row) d) = fun row d => nearB (leastV row (labI nak n L k h)) d := by
            funext row d; rw [leastV_comm]
          rw [hcm] at HXO
          have HPI : Hid (∀ (X : List Pc) W, (Pc.all (X ++ rowsS n HO (labT nbk n L k) HO (labT nbk n L k))).holds W → Rd W 2 ap an (encE (labI nbk n L k h))) := fun X W hW => by
            have hm := rowsS_at (H0 := HO) (T0 := labT nbk n L k) (H := HO) (T := labT nbk n L k) (Φ := []) hhn
            rw [List.append_nil] at hm
            have := hW.1 _ (List.mem_append_right _ (List.mem_of_getElem? hm))
            have h2 : Rd W 2 (nth HO h).p (nth HO h).n (encE (nth (labT nbk n L k) h)) := this.2
            rw [HOO.out, labT_nth hhn] at h2
            exact h2
          have HPO : Hid (∀ (X : List Pc) H1 T1 W, (Pc.all (X ++ rowsS n HI (labT nak n L k) H1 T1)).holds W → Rd W 2 bp bn (encE (labI nak n L k h))) := fun X H1 T1 W hW => by
            have hm := rowsS_at (H0 := HI) (T0 := labT nak n L k) (H := H1) (T := T1) (Φ := []) hhn
            rw [List.append_nil] at hm
            have := hW.1 _ (List.mem_append_right _ (List.mem_of_getElem? hm))
            have h2 : Rd W 2 (nth HI h).p (nth HI h).n (encE (nth (labT nak n L k) h)) := this.2
            rw [HII.out, labT_nth hhn] at h2
            exact h2
          have HSRI := Lib.hid (fun W SS => searchI w.heap.size gl ga qO n n qI n n ap an ac (labI nbk n L k h) (Pc.all (.blk gb 52 #[.slice bp bn bc] :: .own 52 1 qO n n (encH HO) :: .blk w3.heap.size 83 #[.func (.func 47) #[] #[.pointer (some ⟨w.heap.size, 0, none⟩)], .func (.func 48) #[] #[.pointer (some ⟨gl, 0, none⟩)]] :: .blk (w3.heap.size + 1) 83 #[.func (.func 49) #[] #[.pointer (some ⟨w.heap.size, 0, none⟩)], .func (.func 50) #[] #[.pointer (some ⟨gl, 0, none⟩)]] :: rowsS n HO (labT nbk n L k) HO (labT nbk n L k))) HI (labT nak n L k) [] h nak _ _ W w2 SS (HPI.out [_, _, _, _]) (labI_sm HOP.out hn (by omega) hhn) (fun v hv => by rw [labT_nth hv]; exact labI_sm HOP.out hn (by omega) hv) (fun v hv => by rw [labT_nth hv]; exact Nat.le_trans (labI_len _ _ _ _ _) (by omega)) hn hHI HXI.out (HNA.out w.heap.size w2 S2.out.ext HBB.out))
          have HSRO := Lib.hid (fun H1 T1 W SS => searchO w.heap.size gl gb qI n n qO n n bp bn bc (labI nak n L k h) (Pc.all (.blk ga 52 #[.slice ap an ac] :: .own 52 1 qI n n (encH H1) :: .blk w3.heap.size 83 #[.func (.func 47) #[] #[.pointer (some ⟨w.heap.size, 0, none⟩)], .func (.func 48) #[] #[.pointer (some ⟨gl, 0, none⟩)]] :: .blk (w3.heap.size + 1) 83 #[.func (.func 49) #[] #[.pointer (some ⟨w.heap.size, 0, none⟩)], .func (.func 50) #[] #[.pointer (some ⟨gl, 0, none⟩)]] :: rowsS n HI (labT nak n L k) H1 T1)) HO (labT nbk n L k) [] h nbk _ _ W w2 SS (HPO.out [_, _, _, _] H1 T1) (labI_sm HOP.out hn (by omega) hhn) (fun v hv => by rw [labT_nth hv]; exact labI_sm HOP.out hn (by omega) hv) (fun v hv => by rw [labT_nth hv]; exact Nat.le_trans (labI_len _ _ _ _ _) (by omega)) hn hHO HXO.out (HNB.out w.heap.size w2 S2.out.ext HBB.out))
          rw [HSI.out] at HSRI
          rw [HSO.out] at HSRO
          clear HXI HXO HSI HSO HPI HPO hcm hto hR hR2
          try simp [Act.put]
          go_wp2_with (first
            | (go_at_call 51; have _t := S7; go_must (refine (HSRO.out _ _ _ S7.out.toO).mono ?_; rintro e w8 ⟨rfl, H2, hl2, Z⟩; have HL2 := Lib.hid hl2; have S8 := Lib.hid (Sep.ofO Z); clear Z hl2))
            | (go_at_call 51; go_must (refine (HSRI.out _ S6.out.toI).mono ?_; rintro e w7 ⟨rfl, H1, hl1, Z⟩; have HL1 := Lib.hid hl1; have Z7 := Sep.ofI Z; have S7 := Lib.hid Z7; have z0 := (Z7.blk 6 rfl).cell 0; have z1 := (Z7.blk 6 rfl).cell 1; have zz := (Z7.blk 6 rfl).lt; clear Z Z7 hl1)))
          go_roundw
          case rel =>
            refine ⟨k + 1, H2, H1, by omega, by go_num, HL2.out, HL1.out, ?_⟩
            have T1 := S8.out.sub ((List.sublist_cons_self _ _).trans (List.sublist_cons_self _ _))
            have T2 := rowsS_reset (A := [_, _, _, _, _]) T1
            have T3 := rowsS_reset (A := [_, _, _, _, _] ++ rowsS n H2 (labT nbk n L (k + 1)) H2 (labT nbk n L (k + 1))) (by rw [List.append_assoc]; exact T2)
            rw [List.append_assoc] at T3
            exact T3
          case measure => simp [intOf]; omega
      · obtain rfl : k = n := by omega
        have hb := (S2.out.blk 1 rfl).ext S.ext
        have l0 := hb.cell 0
        have l1 := hb.cell 1
        have lf0 := hb.frozen 0
        have lf1 := hb.frozen 1
        have lz := hb.lt
        simp at b0 b1 l0 l1
        have SF := Lib.hid (S2.out.comp S)
        clear hb
        have T2 : Hid (Sep w ((wr.setCell ⟨w.heap.size + 1, 0, none⟩ (.slice qO k k)).setCell ⟨w.heap.size + 1, 1, none⟩ (.slice qI k k)) (.blk (w.heap.size + 1) 42 #[.slice qO k k, .slice qI k k] :: (((.blk gl 42 #[.slice qO k k, .slice qI k k] :: .own 52 1 qO k k (encH HO) :: .own 52 1 qI k k (encH HI) :: .blk w3.heap.size 83 #[.func (.func 47) #[] #[.pointer (some ⟨w.heap.size, 0, none⟩)], .func (.func 48) #[] #[.pointer (some ⟨gl, 0, none⟩)]] :: .blk (w3.heap.size + 1) 83 #[.func (.func 49) #[] #[.pointer (some ⟨w.heap.size, 0, none⟩)], .func (.func 50) #[] #[.pointer (some ⟨gl, 0, none⟩)]] :: (rowsS k HO (labT nbk k L k) HO (labT nbk k L k) ++ (rowsS k HI (labT nak k L k) HI (labT nak k L k) ++ []))) ++ [.own 3 1 q2 k c2 (encI L)]) ++ [.blk w.heap.size 24 #[.slice po no co, .slice pt nt ct, .slice pr nr cr, .slice pv nv cv]]))) := by
          have T0 : Sep w wr (.blk (w.heap.size + 1) 42 #[.slice none 0 0, .slice none 0 0] :: (((.blk gl 42 #[.slice qO k k, .slice qI k k] :: .own 52 1 qO k k (encH HO) :: .own 52 1 qI k k (encH HI) :: .blk w3.heap.size 83 #[.func (.func 47) #[] #[.pointer (some ⟨w.heap.size, 0, none⟩)], .func (.func 48) #[] #[.pointer (some ⟨gl, 0, none⟩)]] :: .blk (w3.heap.size + 1) 83 #[.func (.func 49) #[] #[.pointer (some ⟨w.heap.size, 0, none⟩)], .func (.func 50) #[] #[.pointer (some ⟨gl, 0, none⟩)]] :: (rowsS k HO (labT nbk k L k) HO (labT nbk k L k) ++ (rowsS k HI (labT nak k L k) HI (labT nak k L k) ++ []))) ++ [.own 3 1 q2 k c2 (encI L)]) ++ [.blk w.heap.size 24 #[.slice po no co, .slice pt nt ct, .slice pr nr cr, .slice pv nv cv]])) := SF.out.perm (by
            have e : (.blk gl 42 #[.slice qO k k, .slice qI k k] :: .own 52 1 qO k k (encH HO) :: .own 52 1 qI k k (encH HI) :: .blk w3.heap.size 83 #[.func (.func 47) #[] #[.pointer (some ⟨w.heap.size, 0, none⟩)], .func (.func 48) #[] #[.pointer (some ⟨gl, 0, none⟩)]] :: .blk (w3.heap.size + 1) 83 #[.func (.func 49) #[] #[.pointer (some ⟨w.heap.size, 0, none⟩)], .func (.func 50) #[] #[.pointer (some ⟨gl, 0, none⟩)]] :: (rowsS k HO (labT nbk k L k) HO (labT nbk k L k) ++ (rowsS k HI (labT nak k L k) HI (labT nak k L k) ++ []))) ++ [.own 3 1 q2 k c2 (encI L), .blk (w.heap.size + 1) 42 #[.slice none 0 0, .slice none 0 0], .blk w.heap.size 24 #[.slice po no co, .slice pt nt ct, .slice pr nr cr, .slice pv nv cv]] = ((.blk gl 42 #[.slice qO k k, .slice qI k k] :: .own 52 1 qO k k (encH HO) :: .own 52 1 qI k k (encH HI) :: .blk w3.heap.size 83 #[.func (.func 47) #[] #[.pointer (some ⟨w.heap.size, 0, none⟩)], .func (.func 48) #[] #[.pointer (some ⟨gl, 0, none⟩)]] :: .blk (w3.heap.size + 1) 83 #[.func (.func 49) #[] #[.pointer (some ⟨w.heap.size, 0, none⟩)], .func (.func 50) #[] #[.pointer (some ⟨gl, 0, none⟩)]] :: (rowsS k HO (labT nbk k L k) HO (labT nbk k L k) ++ (rowsS k HI (labT nak k L k) HI (labT nak k L k) ++ []))) ++ [.own 3 1 q2 k c2 (encI L)]) ++ Pc.blk (w.heap.size + 1) 42 #[.slice none 0 0, .slice none 0 0] :: [.blk w.heap.size 24 #[.slice po no co, .slice pt nt ct, .slice pr nr cr, .slice pv nv cv]] := by simp
            refine List.Perm.trans (List.perm_middle (a := Pc.blk (w.heap.size + 1) 42 #[.slice none 0 0, .slice none 0 0]) (l₁ := (.blk gl 42 #[.slice qO k k, .slice qI k k] :: .own 52 1 qO k k (encH HO) :: .own 52 1 qI k k (encH HI) :: .blk w3.heap.size 83 #[.func (.func 47) #[] #[.pointer (some ⟨w.heap.size, 0, none⟩)], .func (.func 48) #[] #[.pointer (some ⟨gl, 0, none⟩)]] :: .blk (w3.heap.size + 1) 83 #[.func (.func 49) #[] #[.pointer (some ⟨w.heap.size, 0, none⟩)], .func (.func 50) #[] #[.pointer (some ⟨gl, 0, none⟩)]] :: (rowsS k HO (labT nbk k L k) HO (labT nbk k L k) ++ (rowsS k HI (labT nak k L k) HI (labT nak k L k) ++ []))) ++ [.own 3 1 q2 k c2 (encI L)]) (l₂ := [.blk w.heap.size 24 #[.slice po no co, .slice pt nt ct, .slice pr nr cr, .slice pv nv cv]])).symm ?_
            rw [← e]
            exact List.Perm.refl _)
          exact (T0.set 0 rfl 0 (.slice qO k k)).set 0 rfl 1 (.slice qI k k)
        have c0 := (T2.out.blk 0 rfl).cell 0
        have c1 := (T2.out.blk 0 rfl).cell 1
        simp at c0 c1
        clear SF
        have SK := Lib.hid S; clear S
        go_wp2
        refine bodyPost_ret (v := .tuple #[.agg #[.slice qO k k, .slice qI k k], .int .i64 0]) (by simp [results, Tryz.results26, go_sem, c0, c1, Tryz.sizeOf42, Tryz.isAgg42]) rfl ⟨qO, k, qI, k, HO, HI, rfl, ?_⟩
        exact T2.out.sub (List.Sublist.cons _ (by
          refine List.Sublist.trans ?_ (List.sublist_append_left _ _)
          refine List.Sublist.trans ?_ (List.sublist_append_left _ _)
          exact .cons _ (.cons_cons _ (.cons_cons _ (.cons _ (.cons _ (List.Sublist.refl _)))))))
end Go.Proofs.YthlmcfbadhidbaaGreat
/- The program's searches (chapter 8): the places of the next level, of either side. -/
namespace Go.Proofs.YthlmcfbadhidbaaGreat
open Go Go.RowKit Go.Maps
theorem zeroBm (w : World) : (zeroValue 4).run Tryz.prog w = .ok (.bool false) w := by kernel_rfl
noncomputable def EBm : Elm Tryz.prog 4 Bool := elmB Tryz.prog 4 Tryz.underlying4 zeroBm
set_option maxRecDepth 100000 in
set_option maxHeartbeats 8000000 in
theorem ahead1 (gs gr n : Nat) (ql : Option Addr) (cl : Nat) (X : List Int) (qf : Option Addr) (m cf : Nat) (F : List Int) (nx : Nat → List Int) (w : World)
    (hB : Blk w gs 146 #[.func (.func 77) #[] #[.pointer (some ⟨gr, 0, none⟩)], .slice ql n cl, .slice qf m cf]) (hX : Rd w 1 ql n (encI X)) (hF : Rd w 1 qf m (encI F)) (hn : n ≤ 200)
    (hFb : ∀ x ∈ F, 0 ≤ x ∧ x < n) (hin : InN nx n)
    (HN : ∀ k, k < n → ∃ q c, Rd w 1 q (nx k).length (encI (nx k)) ∧ ∀ W, Ext w W → Calls Tryz.prog 77 #[.int .i64 k, .pointer (some ⟨gr, 0, none⟩)] W fun e w' => e = .returned (.slice q (nx k).length c) ∧ Ext W w') :
    Calls Tryz.prog 81 #[.pointer (some ⟨gs, 0, none⟩)] w fun e w' => ∃ q c, e = .returned (.slice q (ahF nx X F []).length c) ∧ Sep w w' [.own 3 1 q (ahF nx X F []).length c (encI (ahF nx X F []))] := by
  obtain ⟨i0, hi0, hz0, hz1, hz2⟩ := info_parts infI
  have p1 := hF.ptr
  have p2 := hX.ptr
  have n1 := hF.small
  have L1 := Lib.hid hF.nI
  have L2 := Lib.hid hX.nI
  have HSM : Hid (∀ (G : List Int) (l : List Int), (∀ x ∈ G, 0 ≤ x ∧ x < n) → l.Nodup → (∀ x ∈ l, 0 ≤ x ∧ x < n) → (ahF nx X G l).length ≤ n) := fun G l hG h1 h2 => nodup_small (ahF_nodup h1) fun x hx => by
    rcases ahF_mem.1 hx with h | ⟨v, h3, h4, _⟩
    · exact h2 x h
    · obtain ⟨h5, h6⟩ := hG v h3
      exact hin v.toNat (by omega) x h4
  have HB := Lib.hid hB; clear hB
  have HX := Lib.hid hX; clear hX
  have HF := Lib.hid hF; clear hF
  have HFB := Lib.hid hFb; clear hFb
  have HIN := Lib.hid hin; clear hin
  have HNX := Lib.hid HN
  clear HN
  have hmm := @run_makeMap Tryz.prog
  have S0 := Lib.hid (((Sep.start w).mkmap EBm (k := 3)).nilrow 3 1)
  have b0 := HB.out.cell 0
  have b1 := HB.out.cell 1
  have b2 := HB.out.cell 2
  have bz := HB.out.lt
  go_enter Tryz.func81, Tryz.ntmps81
  go_wp2
  go_loopw [3, 6, 8, 15] (fun l _ _ i wr => ∃ (k : Nat) (L : List Int) (q : Option Addr) (c mm : Nat) (f : Int → Option Bool), k ≤ m ∧ i = .int .i64 k ∧ l = .slice q L.length c ∧ L = ahF nx X (F.take k) [] ∧ mm ≤ L.length ∧ Sep w wr [.own 3 1 q L.length c (encI L), .map Tryz.prog 3 EBm w.heap.size mm f] ∧ ∀ x, f x = some true ↔ x ∈ L) (fun _ _ _ i _ => m - (intOf i).toNat)
  case atStart => exact ⟨0, [], none, 0, 0, _, Nat.zero_le _, rfl, rfl, rfl, Nat.le_refl _, S0.out, fun x => by simp⟩
  case round =>
    clear S0 b0 b1 b2 bz
    obtain ⟨k, L, q, c, mm, f, hk, rfl, rfl, hL, hmm2, S, hf⟩ := hrel
    have b0 := S.ext.cell (HB.out.cell 0)
    have b1 := S.ext.cell (HB.out.cell 1)
    have b2 := S.ext.cell (HB.out.cell 2)
    have bz := Nat.lt_of_lt_of_le HB.out.lt S.ext.size
    by_cases hlt : k < m
    · have hkF : k < F.length := by rw [← L1.out]; exact hlt
      have g1 := S.ext.cell (HF.out.cI hlt)
      obtain ⟨f1, f2⟩ := HFB.out _ (nth_mem hkF)
      have HT := Lib.hid (ahF_take (nx := nx) (X := X) (l := []) hkF)
      rw [← hL] at HT
      have HLB : Hid (∀ j l', l' = ahR X ((nx (nth F k).toNat).take j) L → l'.length ≤ n) := fun j l' hl' => by
        rw [hl', hL]
        refine nodup_small (ahR_nodup (ahF_nodup List.nodup_nil)) fun x hx => ?_
        rcases ahR_mem.1 hx with h | ⟨h, _⟩
        · rcases ahF_mem.1 h with h | ⟨v, h3, h4, _⟩
          · cases h
          · obtain ⟨h5, h6⟩ := HFB.out v (List.mem_of_mem_take h3)
            exact HIN.out v.toNat (by omega) x h4
        · exact HIN.out _ (by omega) x (List.mem_of_mem_take h)
      clear hL
      obtain ⟨a, ha⟩ : ∃ a : Nat, nth F k = (a : Int) := ⟨(nth F k).toNat, by omega⟩
      rw [ha] at g1 f1 f2 HT HLB
      rw [Int.toNat_natCast] at HT HLB
      obtain ⟨qn, cn, RN, CN⟩ := HNX.out a (by omega)
      have HRow := Lib.hid (HIN.out a (by omega))
      have hln := RN.small
      have pn := RN.ptr
      generalize nx a = row at *
      have HRN := Lib.hid RN; clear RN
      have HCN := Lib.hid CN; clear CN
      have HFN := Lib.hid hf; clear hf
      have SH := Lib.hid S; clear S
      have d1 : (0:Int) ≤ k := by omega
      have d2 : (k:Int) < m := by omega
      clear ha f1 f2
      go_wp2_with (go_at_call 77; go_must (refine (HCN.out _ SH.out.ext).mono ?_; rintro e w1 ⟨rfl, hb⟩; have S1 := Lib.hid (SH.out.call hb); clear hb))
      go_loopw [3, 8, 26] (fun l _ i wr => ∃ (j : Nat) (l' : List Int) (q : Option Addr) (c mm : Nat) (f : Int → Option Bool), j ≤ row.length ∧ i = .int .i64 j ∧ l = .slice q l'.length c ∧ l' = ahR X (row.take j) L ∧ mm ≤ l'.length ∧ Sep w wr [.own 3 1 q l'.length c (encI l'), .map Tryz.prog 3 EBm w.heap.size mm f] ∧ ∀ x, f x = some true ↔ x ∈ l') (fun _ _ i _ => row.length - (intOf i).toNat)
      case atStart => exact ⟨0, L, q, c, mm, f, Nat.zero_le _, rfl, rfl, rfl, hmm2, S1.out, HFN.out⟩
      case round =>
        clear SH S1 HFN HCN b0 b1 b2 bz g1 hmm2
        obtain ⟨j, l', q, c, mm, f, hj, rfl, rfl, hl', hmm2, S, hf⟩ := hrel
        have b0 := S.ext.cell (HB.out.cell 0)
        have b1 := S.ext.cell (HB.out.cell 1)
        have b2 := S.ext.cell (HB.out.cell 2)
        have bz := Nat.lt_of_lt_of_le HB.out.lt S.ext.size
        by_cases hlj : j < row.length
        · have g1 := S.ext.cell (HRN.out.cI hlj)
          obtain ⟨f1, f2⟩ := HRow.out _ (nth_mem hlj)
          have HT2 := Lib.hid (ahR_take (X := X) (l := L) hlj)
          rw [← hl'] at HT2
          have hlen := HLB.out j l' hl'
          clear hl'
          obtain ⟨b, hb⟩ : ∃ b : Nat, nth row j = (b : Int) := ⟨(nth row j).toNat, by omega⟩
          rw [hb] at g1 f1 f2 HT2
          have g2 := S.ext.cell (HX.out.cI (k := b) (by omega))
          have HI : Hid (I64 (b : Int)) := I64.nat (by omega)
          have hlk := (S.map 1 rfl).lookup Tryz.underlying3 Tryz.underlying120 HI.out
          obtain ⟨u, hu⟩ : ∃ u, u = (f (b : Int)).getD EBm.z := ⟨_, rfl⟩
          rw [← hu] at hlk
          have hlk2 : (Instr.lookup 120 (.map (some w.heap.size)) (.int .i64 (b : Int)) false).run Tryz.prog wr = .ok (.bool u) wr := hlk
          have hui : u = true ↔ (b : Int) ∈ l' := by
            rw [← hf, hu]
            cases hfb : f (b : Int) with
            | none => simp; decide
            | some t => simp
          clear hlk hb hu
          have HFN := Lib.hid hf; clear hf
          have SH := Lib.hid S; clear S
          have d3 : (0:Int) ≤ j := by omega
          have d4 : (j:Int) < row.length := by omega
          unfold ah1 at HT2
          rw [Int.toNat_natCast] at HT2
          generalize nth X b = lv at *
          by_cases hlv : lv < 0
          · have d5 : decide (lv < 0) = true := by simpa using hlv
            cases u with
            | true =>
              have hmem := hui.1 rfl
              rw [if_neg (fun h => h.2 hmem)] at HT2
              clear hui hmem
              go_wp2
              go_roundw
              case rel => exact ⟨j + 1, l', q, c, mm, f, by omega, by go_num, rfl, HT2.out.symm, hmm2, SH.out, HFN.out⟩
              case measure => simp [intOf]; omega
            | false =>
              have hmem : (b : Int) ∉ l' := fun h => by have := hui.2 h; cases this
              rw [if_pos ⟨hlv, hmem⟩] at HT2
              clear hui hmem
              go_wp2_with (first
                | (at_mapUpdate; go_must (refine wpList_update_sep rfl _ _ _ _ rfl Tryz.underlying3 Tryz.underlying120 rfl SH.out 1 rfl (by omega) (b : Int) true rfl rfl HI.out ?_; intro w1 S1 hg; have S2 := Lib.hid S1; clear S1 hg))
                | (at_builtin; go_must (refine wpList_append_sep rfl _ _ _ rfl 3 i0 _ 1 8 Tryz.underlying22 hi0 hz0 hz1 hz2 rfl (by omega) (S2.out.junk _) 0 q l'.length c _ rfl rfl _ 1 1 _ rfl (Rd.oneI _ _ _) (one_encI _) (by omega) (by omega) ?_; intro q' c' w3 S' hsz; have S3 := Lib.hid S'; clear S' hsz)))
              go_roundw
              case rel => exact ⟨j + 1, l' ++ [(b : Int)], q', c', mm + 1, _, by omega, by go_num, by rw [List.length_append]; rfl, HT2.out.symm, by rw [List.length_append]; simp; omega, by rw [List.length_append, encI_append]; exact S3.out, fun x => by
                rw [List.mem_append, List.mem_singleton, ← HFN.out x]
                unfold upF
                by_cases e : x = (b : Int) <;> simp [e]⟩
              case measure => simp [intOf]; omega
          · have d5 : decide (lv < 0) = false := by simpa using hlv
            rw [if_neg (fun h => hlv h.1)] at HT2
            clear hui hlk2
            go_wp2
            go_roundw
            case rel => exact ⟨j + 1, l', q, c, mm, f, by omega, by go_num, rfl, HT2.out.symm, hmm2, SH.out, HFN.out⟩
            case measure => simp [intOf]; omega
        · obtain rfl : j = row.length := by omega
          rw [List.take_length, ← HT.out] at hl'
          have HL' := Lib.hid hl'; clear hl'
          have HFN := Lib.hid hf; clear hf
          have SH := Lib.hid S; clear S
          go_wp2
          go_roundw
          case rel => exact ⟨k + 1, l', q, c, mm, f, by omega, by go_num, rfl, HL'.out, hmm2, SH.out, HFN.out⟩
          case measure => simp [intOf]; omega
    · obtain rfl : k = m := by omega
      rw [List.take_of_length_le (by rw [← L1.out]; omega)] at hL
      subst hL
      have SH := Lib.hid S; clear S
      clear hf
      go_wp2
      go_ret
      exact ⟨q, c, rfl, SH.out.pick [0] (by decide) rfl⟩
set_option maxRecDepth 100000 in
set_option maxHeartbeats 8000000 in
theorem ahead2 (gs gr n : Nat) (ql : Option Addr) (cl : Nat) (X : List Int) (qf : Option Addr) (m cf : Nat) (F : List Int) (nx : Nat → List Int) (w : World)
    (hB : Blk w gs 146 #[.func (.func 78) #[] #[.pointer (some ⟨gr, 0, none⟩)], .slice ql n cl, .slice qf m cf]) (hX : Rd w 1 ql n (encI X)) (hF : Rd w 1 qf m (encI F)) (hn : n ≤ 200)
    (hFb : ∀ x ∈ F, 0 ≤ x ∧ x < n) (hin : InN nx n)
    (HN : ∀ k, k < n → ∃ q c, Rd w 1 q (nx k).length (encI (nx k)) ∧ ∀ W, Ext w W → Calls Tryz.prog 78 #[.int .i64 k, .pointer (some ⟨gr, 0, none⟩)] W fun e w' => e = .returned (.slice q (nx k).length c) ∧ Ext W w') :
    Calls Tryz.prog 81 #[.pointer (some ⟨gs, 0, none⟩)] w fun e w' => ∃ q c, e = .returned (.slice q (ahF nx X F []).length c) ∧ Sep w w' [.own 3 1 q (ahF nx X F []).length c (encI (ahF nx X F []))] := by
  obtain ⟨i0, hi0, hz0, hz1, hz2⟩ := info_parts infI
  have p1 := hF.ptr
  have p2 := hX.ptr
  have n1 := hF.small
  have L1 := Lib.hid hF.nI
  have L2 := Lib.hid hX.nI
  have HSM : Hid (∀ (G : List Int) (l : List Int), (∀ x ∈ G, 0 ≤ x ∧ x < n) → l.Nodup → (∀ x ∈ l, 0 ≤ x ∧ x < n) → (ahF nx X G l).length ≤ n) := fun G l hG h1 h2 => nodup_small (ahF_nodup h1) fun x hx => by
    rcases ahF_mem.1 hx with h | ⟨v, h3, h4, _⟩
    · exact h2 x h
    · obtain ⟨h5, h6⟩ := hG v h3
      exact hin v.toNat (by omega) x h4
  have HB := Lib.hid hB; clear hB
  have HX := Lib.hid hX; clear hX
  have HF := Lib.hid hF; clear hF
  have HFB := Lib.hid hFb; clear hFb
  have HIN := Lib.hid hin; clear hin
  have HNX := Lib.hid HN
  clear HN
  have hmm := @run_makeMap Tryz.prog
  have S0 := Lib.hid (((Sep.start w).mkmap EBm (k := 3)).nilrow 3 1)
  have b0 := HB.out.cell 0
  have b1 := HB.out.cell 1
  have b2 := HB.out.cell 2
  have bz := HB.out.lt
  go_enter Tryz.func81, Tryz.ntmps81
  go_wp2
  go_loopw [3, 6, 8, 15] (fun l _ _ i wr => ∃ (k : Nat) (L : List Int) (q : Option Addr) (c mm : Nat) (f : Int → Option Bool), k ≤ m ∧ i = .int .i64 k ∧ l = .slice q L.length c ∧ L = ahF nx X (F.take k) [] ∧ mm ≤ L.length ∧ Sep w wr [.own 3 1 q L.length c (encI L), .map Tryz.prog 3 EBm w.heap.size mm f] ∧ ∀ x, f x = some true ↔ x ∈ L) (fun _ _ _ i _ => m - (intOf i).toNat)
  case atStart => exact ⟨0, [], none, 0, 0, _, Nat.zero_le _, rfl, rfl, rfl, Nat.le_refl _, S0.out, fun x => by simp⟩
  case round =>
    clear S0 b0 b1 b2 bz
    obtain ⟨k, L, q, c, mm, f, hk, rfl, rfl, hL, hmm2, S, hf⟩ := hrel
    have b0 := S.ext.cell (HB.out.cell 0)
    have b1 := S.ext.cell (HB.out.cell 1)
    have b2 := S.ext.cell (HB.out.cell 2)
    have bz := Nat.lt_of_lt_of_le HB.out.lt S.ext.size
    by_cases hlt : k < m
    · have hkF : k < F.length := by rw [← L1.out]; exact hlt
      have g1 := S.ext.cell (HF.out.cI hlt)
      obtain ⟨f1, f2⟩ := HFB.out _ (nth_mem hkF)
      have HT := Lib.hid (ahF_take (nx := nx) (X := X) (l := []) hkF)
      rw [← hL] at HT
      have HLB : Hid (∀ j l', l' = ahR X ((nx (nth F k).toNat).take j) L → l'.length ≤ n) := fun j l' hl' => by
        rw [hl', hL]
        refine nodup_small (ahR_nodup (ahF_nodup List.nodup_nil)) fun x hx => ?_
        rcases ahR_mem.1 hx with h | ⟨h, _⟩
        · rcases ahF_mem.1 h with h | ⟨v, h3, h4, _⟩
          · cases h
          · obtain ⟨h5, h6⟩ := HFB.out v (List.mem_of_mem_take h3)
            exact HIN.out v.toNat (by omega) x h4
        · exact HIN.out _ (by omega) x (List.mem_of_mem_take h)
      clear hL
      obtain ⟨a, ha⟩ : ∃ a : Nat, nth F k = (a : Int) := ⟨(nth F k).toNat, by omega⟩
      rw [ha] at g1 f1 f2 HT HLB
      rw [Int.toNat_natCast] at HT HLB
      obtain ⟨qn, cn, RN, CN⟩ := HNX.out a (by omega)
      have HRow := Lib.hid (HIN.out a (by omega))
      have hln := RN.small
      have pn := RN.ptr
      generalize nx a = row at *
      have HRN := Lib.hid RN; clear RN
      have HCN := Lib.hid CN; clear CN
      have HFN := Lib.hid hf; clear hf
      have SH := Lib.hid S; clear S
      have d1 : (0:Int) ≤ k := by omega
      have d2 : (k:Int) < m := by omega
      clear ha f1 f2
      go_wp2_with (go_at_call 78; go_must (refine (HCN.out _ SH.out.ext).mono ?_; rintro e w1 ⟨rfl, hb⟩; have S1 := Lib.hid (SH.out.call hb); clear hb))
      go_loopw [3, 8, 26] (fun l _ i wr => ∃ (j : Nat) (l' : List Int) (q : Option Addr) (c mm : Nat) (f : Int → Option Bool), j ≤ row.length ∧ i = .int .i64 j ∧ l = .slice q l'.length c ∧ l' = ahR X (row.take j) L ∧ mm ≤ l'.length ∧ Sep w wr [.own 3 1 q l'.length c (encI l'), .map Tryz.prog 3 EBm w.heap.size mm f] ∧ ∀ x, f x = some true ↔ x ∈ l') (fun _ _ i _ => row.length - (intOf i).toNat)
      case atStart => exact ⟨0, L, q, c, mm, f, Nat.zero_le _, rfl, rfl, rfl, hmm2, S1.out, HFN.out⟩
      case round =>
        clear SH S1 HFN HCN b0 b1 b2 bz g1 hmm2
        obtain ⟨j, l', q, c, mm, f, hj, rfl, rfl, hl', hmm2, S, hf⟩ := hrel
        have b0 := S.ext.cell (HB.out.cell 0)
        have b1 := S.ext.cell (HB.out.cell 1)
        have b2 := S.ext.cell (HB.out.cell 2)
        have bz := Nat.lt_of_lt_of_le HB.out.lt S.ext.size
        by_cases hlj : j < row.length
        · have g1 := S.ext.cell (HRN.out.cI hlj)
          obtain ⟨f1, f2⟩ := HRow.out _ (nth_mem hlj)
          have HT2 := Lib.hid (ahR_take (X := X) (l := L) hlj)
          rw [← hl'] at HT2
          have hlen := HLB.out j l' hl'
          clear hl'
          obtain ⟨b, hb⟩ : ∃ b : Nat, nth row j = (b : Int) := ⟨(nth row j).toNat, by omega⟩
          rw [hb] at g1 f1 f2 HT2
          have g2 := S.ext.cell (HX.out.cI (k := b) (by omega))
          have HI : Hid (I64 (b : Int)) := I64.nat (by omega)
          have hlk := (S.map 1 rfl).lookup Tryz.underlying3 Tryz.underlying120 HI.out
          obtain ⟨u, hu⟩ : ∃ u, u = (f (b : Int)).getD EBm.z := ⟨_, rfl⟩
          rw [← hu] at hlk
          have hlk2 : (Instr.lookup 120 (.map (some w.heap.size)) (.int .i64 (b : Int)) false).run Tryz.prog wr = .ok (.bool u) wr := hlk
          have hui : u = true ↔ (b : Int) ∈ l' := by
            rw [← hf, hu]
            cases hfb : f (b : Int) with
            | none => simp; decide
            | some t => simp
          clear hlk hb hu
          have HFN := Lib.hid hf; clear hf
          have SH := Lib.hid S; clear S
          have d3 : (0:Int) ≤ j := by omega
          have d4 : (j:Int) < row.length := by omega
          unfold ah1 at HT2
          rw [Int.toNat_natCast] at HT2
          generalize nth X b = lv at *
          by_cases hlv : lv < 0
          · have d5 : decide (lv < 0) = true := by simpa using hlv
            cases u with
            | true =>
              have hmem := hui.1 rfl
              rw [if_neg (fun h => h.2 hmem)] at HT2
              clear hui hmem
              go_wp2
              go_roundw
              case rel => exact ⟨j + 1, l', q, c, mm, f, by omega, by go_num, rfl, HT2.out.symm, hmm2, SH.out, HFN.out⟩
              case measure => simp [intOf]; omega
            | false =>
              have hmem : (b : Int) ∉ l' := fun h => by have := hui.2 h; cases this
              rw [if_pos ⟨hlv, hmem⟩] at HT2
              clear hui hmem
              go_wp2_with (first
                | (at_mapUpdate; go_must (refine wpList_update_sep rfl _ _ _ _ rfl Tryz.underlying3 Tryz.underlying120 rfl SH.out 1 rfl (by omega) (b : Int) true rfl rfl HI.out ?_; intro w1 S1 hg; have S2 := Lib.hid S1; clear S1 hg))
                | (at_builtin; go_must (refine wpList_append_sep rfl _ _ _ rfl 3 i0 _ 1 8 Tryz.underlying22 hi0 hz0 hz1 hz2 rfl (by omega) (S2.out.junk _) 0 q l'.length c _ rfl rfl _ 1 1 _ rfl (Rd.oneI _ _ _) (one_encI _) (by omega) (by omega) ?_; intro q' c' w3 S' hsz; have S3 := Lib.hid S'; clear S' hsz)))
              go_roundw
              case rel => exact ⟨j + 1, l' ++ [(b : Int)], q', c', mm + 1, _, by omega, by go_num, by rw [List.length_append]; rfl, HT2.out.symm, by rw [List.length_append]; simp; omega, by rw [List.length_append, encI_append]; exact S3.out, fun x => by
                rw [List.mem_append, List.mem_singleton, ← HFN.out x]
                unfold upF
                by_cases e : x = (b : Int) <;> simp [e]⟩
              case measure => simp [intOf]; omega
          · have d5 : decide (lv < 0) = false := by simpa using hlv
            rw [if_neg (fun h => hlv h.1)] at HT2
            clear hui hlk2
            go_wp2
            go_roundw
            case rel => exact ⟨j + 1, l', q, c, mm, f, by omega, by go_num, rfl, HT2.out.symm, hmm2, SH.out, HFN.out⟩
            case measure => simp [intOf]; omega
        · obtain rfl : j = row.length := by omega
          rw [List.take_length, ← HT.out] at hl'
          have HL' := Lib.hid hl'; clear hl'
          have HFN := Lib.hid hf; clear hf
          have SH := Lib.hid S; clear S
          go_wp2
          go_roundw
          case rel => exact ⟨k + 1, l', q, c, mm, f, by omega, by go_num, rfl, HL'.out, hmm2, SH.out, HFN.out⟩
          case measure => simp [intOf]; omega
    · obtain rfl : k = m := by omega
      rw [List.take_of_length_le (by rw [← L1.out]; omega)] at hL
      subst hL
      have SH := Lib.hid S; clear S
      clear hf
      go_wp2
      go_ret
      exact ⟨q, c, rfl, SH.out.pick [0] (by decide) rfl⟩
end Go.Proofs.YthlmcfbadhidbaaGreat
