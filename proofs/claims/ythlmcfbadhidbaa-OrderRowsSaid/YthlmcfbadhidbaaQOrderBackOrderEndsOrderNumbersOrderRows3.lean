/- Texts of this claim, one behind the other: Mk4, PlainR2, PlainN, PlainBy, Hp1, Hp2, OwnSm, Hp3, HpM, Hp4, Hp5, Hp6, Hp7, PlainOr, Or1, Or2, DelI, Or3, Eq4, Ex4, Dst8a, Dst8b, Ex11, PlainOr2, LBack11, Open, Post, Open5, LNums11, LEnds11. -/
import Derived.Handy
import Derived.ProofKit
import Derived.Deep.Slices
import Derived.Deep.Fields
import Derived.ChangeSame
import Derived.Lib.SmallJoins
import Derived.Below
import Derived.Carry
import Derived.OpenShut
import Derived.Test.YthlmcfbadhidbaaProg
import Derived.Test.YthlmcfbadhidbaaQOrderBackOrderEndsOrderNumbersOrderRows2
/- The program's rows of a graph: Make. -/
namespace Go.Proofs.Ythlmcfbadhidbaa
open Go Go.RowKit Go.Shelf Go.Lib
/-- rows that are read -/
def RowsV (w : World) (v : Value) (O T R V : List Int) : Prop :=
  ∃ po no co pt nt ct pr nr cr pv nv cv, v = .agg #[.slice po no co, .slice pt nt ct, .slice pr nr cr, .slice pv nv cv] ∧ Rd w 1 po no (encI O) ∧ Rd w 1 pt nt (encI T) ∧ Rd w 1 pr nr (encI R) ∧ Rd w 1 pv nv (encI V) ∧ no ≤ co ∧ nt ≤ ct ∧ nr ≤ cr ∧ nv ≤ cv
theorem RowsV.ext {w w' : World} {v : Value} {O T R V : List Int} (h : RowsV w v O T R V) (he : Ext w w') : RowsV w' v O T R V := by
  obtain ⟨po, no, co, pt, nt, ct, pr, nr, cr, pv, nv, cv, h0, h1, h2, h3, h4, h5⟩ := h
  exact ⟨po, no, co, pt, nt, ct, pr, nr, cr, pv, nv, cv, h0, h1.ext he, h2.ext he, h3.ext he, h4.ext he, h5⟩
def turnE (E : List (Int × Int)) : List (Int × Int) := putAll lessE (E.map swapE)
def rO (b : Bool) (n : Nat) (E : List (Int × Int)) : List Int := if b = true then offL n E else []
def rT (b : Bool) (E : List (Int × Int)) : List Int := if b = true then toL E else []
def rC (b : Bool) : Int := if b = true then 0 else 20
theorem turnE_bd {N : Int} {E : List (Int × Int)} (h : ∀ x ∈ E, edgeOk N x = true) : ∀ x ∈ turnE E, 0 ≤ x.1 ∧ x.1 < N := fun x hx => by
  unfold turnE at hx
  rw [putAll_mem stoE, List.mem_map] at hx
  obtain ⟨y, hy, rfl⟩ := hx
  have := h y hy
  unfold edgeOk at this
  simp at this
  unfold swapE
  simp only
  omega
set_option maxRecDepth 100000 in
set_option maxHeartbeats 4000000 in
theorem RMakeG_no (N : Int) (pe : Option Addr) (ne ce : Nat) (pw : Option Addr) (nw cw : Nat) (E : List (Int × Int)) (hs : List Hd) (W : List (List ByteArray)) (w : World) (hE : Rd w 2 pe ne (encE E)) (hW : RdW w pw nw hs W) (hz : SzW W) (hi : isB N E W = false) :
    Calls Try.prog 18 #[.agg #[.int .i64 N, .slice pe ne ce, .slice pw nw cw]] w fun e w' => e = .returned (.tuple #[.agg #[.slice none 0 0, .slice none 0 0, .slice none 0 0, .slice none 0 0], .int .i64 20]) ∧ Ext w w' := by
  have HI := Lib.hid (fun W1 (h : Ext w W1) => IsG N pe ne ce pw nw cw E hs W W1 (hE.ext h) (hW.ext h) hz)
  rw [hi] at HI
  have S0 := Lib.hid (((Sep.start w).al #[.int .i64 N, .slice pe ne ce, .slice pw nw cw] 48 w.heap.size rfl).al #[.slice none 0 0, .slice none 0 0, .slice none 0 0, .slice none 0 0] 34 (w.heap.size + 1) (by simp))
  clear hE hW hz hi
  go_enter Try.func18, Try.ntmps18
  go_wp2_with (go_at_call 26; go_must (refine (HI.out _ S0.out.ext).mono ?_; rintro e w1 ⟨rfl, hb⟩; have S1 := Lib.hid (S0.out.call hb); have a0 := (S1.out.blk 0 rfl).cell 0; have a1 := (S1.out.blk 0 rfl).cell 1; have a2 := (S1.out.blk 0 rfl).cell 2; have a3 := (S1.out.blk 0 rfl).cell 3; have b0 := (S1.out.blk 0 rfl).frozen 0; have b1 := (S1.out.blk 0 rfl).frozen 1; have b2 := (S1.out.blk 0 rfl).frozen 2; have b3 := (S1.out.blk 0 rfl).frozen 3; have zb := (S1.out.blk 0 rfl).lt; clear hb))
  have S4 := (((S1.out.set 0 rfl 0 (.slice none 0 0)).set 0 rfl 1 (.slice none 0 0)).set 0 rfl 2 (.slice none 0 0)).set 0 rfl 3 (.slice none 0 0)
  have k0 := (S4.blk 0 rfl).cell 0
  have k1 := (S4.blk 0 rfl).cell 1
  have k2 := (S4.blk 0 rfl).cell 2
  have k3 := (S4.blk 0 rfl).cell 3
  refine bodyPost_ret (v := .tuple #[.agg #[.slice none 0 0, .slice none 0 0, .slice none 0 0, .slice none 0 0], .int .i64 20]) (by simp [results, Try.results18, go_sem, k0, k1, k2, k3, Try.sizeOf34, Try.isAgg34]) rfl ⟨rfl, S4.ext⟩
set_option maxRecDepth 100000 in
set_option maxHeartbeats 8000000 in
theorem RMakeG_yes (n : Nat) (pe : Option Addr) (ne ce : Nat) (pw : Option Addr) (nw cw : Nat) (E : List (Int × Int)) (hs : List Hd) (W : List (List ByteArray)) (w : World) (hE : Rd w 2 pe ne (encE E)) (hW : RdW w pw nw hs W) (hz : SzW W) (hi : isB n E W = true) :
    Calls Try.prog 18 #[.agg #[.int .i64 n, .slice pe ne ce, .slice pw nw cw]] w fun e w' => ∃ v, e = .returned (.tuple #[v, .int .i64 0]) ∧ RowsV w' v (offL n E) (toL E) (offL n (turnE E)) (toL (turnE E)) ∧ Ext w w' := by
  have HI := Lib.hid (fun W1 (h : Ext w W1) => IsG n pe ne ce pw nw cw E hs W W1 (hE.ext h) (hW.ext h) hz)
  rw [hi] at HI
  have hc : checkB n E W = true := by
    unfold isB at hi
    rw [Bool.and_eq_true, Bool.and_eq_true] at hi
    exact hi.1.1
  obtain ⟨h1, h2, h3, h4, h5, h6⟩ := checkB_parts hc
  have hEb : ∀ x ∈ E, edgeOk n x = true := List.all_eq_true.1 h5
  have l1 := hE.nE
  have HT := Lib.hid (fun W1 (h : Ext w W1) => TurnedG n pe ne ce pw nw cw E hs W W1 (hE.ext h) (hW.ext h) hz (by omega))
  have hcs : checkB n (E.map swapE) W = true := by rw [check_swap]; exact hc
  obtain ⟨a1, a2, a3, a4⟩ := norm_of hcs (rfl : _ = turnE E) (rfl : _ = W.map (putAll sLess))
  rw [a1, a2, a3, a4] at HT
  have hlt : (turnE E).length ≤ 2000 := by
    unfold turnE
    have := putAll_len lessE (E.map swapE)
    rw [List.length_map] at this; omega
  have HL1 := Lib.hid (fun W1 (h : Ext w W1) => laidG n pe ne ce E W1 (hE.ext h) (by omega) (by omega) (fun x hx => by have := hEb x hx; unfold edgeOk at this; simp at this; omega))
  have HL2 := Lib.hid (fun q c W1 (h : Rd W1 2 q (turnE E).length (encE (turnE E))) => laidG n q (turnE E).length c (turnE E) W1 h (by omega) hlt (turnE_bd hEb))
  generalize turnE E = F at *
  have S0 := Lib.hid (((Sep.start w).al #[.int .i64 n, .slice pe ne ce, .slice pw nw cw] 48 w.heap.size rfl).al #[.slice none 0 0, .slice none 0 0, .slice none 0 0, .slice none 0 0] 34 (w.heap.size + 1) (by simp))
  have h2' : n ≤ 200 := by omega
  have h3' : ne ≤ 2000 := by omega
  generalize W.map (putAll sLess) = V at *
  clear hE hW hz hi hc hcs a1 a2 a3 a4 h1 h2 h3 h4 h5 h6 hEb l1
  go_enter Try.func18, Try.ntmps18
  go_wp2_with (first
    | (go_at_call 28; have _t := T4; go_must (refine (HL2.out q2 k2 _ ((K2.out.ext T4.out.ext).get 0 rfl)).mono ?_; rintro e w5 ⟨qr, cr, qv, cv, rfl, T⟩; have T5 := Lib.hid (T4.out.comp T); have r0 := (T5.out.blk 4 rfl).cell 0; have r1 := (T5.out.blk 4 rfl).cell 1; have r2c := (T5.out.blk 4 rfl).cell 2; have r3 := (T5.out.blk 4 rfl).cell 3; have rf2 := (T5.out.blk 4 rfl).frozen 2; have rf3 := (T5.out.blk 4 rfl).frozen 3; have rz := (T5.out.blk 4 rfl).lt; have S5 := S2.out.comp T5.out; have u0 := (S5.blk 6 rfl).cell 0; have u1 := (S5.blk 6 rfl).cell 1; have u2 := (S5.blk 6 rfl).cell 2; have u3 := (S5.blk 6 rfl).cell 3; have uf0 := (S5.blk 6 rfl).frozen 0; have uf1 := (S5.blk 6 rfl).frozen 1; have uf2 := (S5.blk 6 rfl).frozen 2; have uf3 := (S5.blk 6 rfl).frozen 3; have uz := (S5.blk 6 rfl).lt; clear T S5))
    | (go_at_call 28; have _t := S2; go_must (refine (HL1.out _ (Ext.trans S2.out.ext (((Sep.start w2).al #[.int .i64 n, .slice q2 F.length k2, .slice r2 V.length m2] 48 w2.heap.size rfl).al #[.slice none 0 0, .slice none 0 0, .slice none 0 0, .slice none 0 0] 34 (w2.heap.size + 1) (by simp)).ext)).mono ?_; rintro e w4 ⟨qo, co, qt, ct, rfl, T⟩; have T3 := (((Sep.start w2).al #[.int .i64 n, .slice q2 F.length k2, .slice r2 V.length m2] 48 w2.heap.size rfl).al #[.slice none 0 0, .slice none 0 0, .slice none 0 0, .slice none 0 0] 34 (w2.heap.size + 1) (by simp)).comp T; have c0 := (T3.blk 2 rfl).cell 0; have c1 := (T3.blk 2 rfl).cell 1; have f0 := (T3.blk 2 rfl).frozen 0; have f1 := (T3.blk 2 rfl).frozen 1; have cz := (T3.blk 2 rfl).lt; have t1 := (T3.blk 3 rfl).cell 1; have tz := (T3.blk 3 rfl).lt; have S3 := S2.out.comp T3; have n0 := (S3.blk 5 rfl).cell 0; have nz := (S3.blk 5 rfl).lt; have T4 := Lib.hid ((T3.set 2 rfl 0 (.slice qo (n + 1) co)).set 2 rfl 1 (.slice qt ne ct)); clear T T3 S3))
    | (go_at_call 27; have _t := S1; go_must (refine (HT.out _ S1.out.ext).mono ?_; rintro e w2 ⟨va, rfl, ⟨q2, k2, r2, m2, h2, rfl, oe, ow⟩, hb⟩; have S2 := Lib.hid (S1.out.call hb); have K2 := Lib.hid ((Kn.nil w2).add (fun w => Rd w 2 q2 F.length (encE F)) (fun _ he => (Rd.of_own oe (by omega)).ext he)); have gz := (S2.out.blk 1 rfl).lt; have g0 := (S2.out.blk 1 rfl).cell 0; have g1 := (S2.out.blk 1 rfl).cell 1; have g2 := (S2.out.blk 1 rfl).cell 2; have gz2 := (S2.out.blk 0 rfl).lt; clear hb oe ow))
    | (go_at_call 26; go_must (refine (HI.out _ S0.out.ext).mono ?_; rintro e w1 ⟨rfl, hb⟩; have S1 := Lib.hid (S0.out.call hb); have xz := (S1.out.blk 1 rfl).lt; have x0 := (S1.out.blk 1 rfl).cell 0; have x1 := (S1.out.blk 1 rfl).cell 1; have x2 := (S1.out.blk 1 rfl).cell 2; clear hb)))
  have S6 := S2.out.comp ((T5.out.set 4 rfl 2 (.slice qr (n + 1) cr)).set 4 rfl 3 (.slice qv F.length cv))
  have S7 := (((S6.set 6 rfl 0 (.slice qo (n + 1) co)).set 6 rfl 1 (.slice qt ne ct)).set 6 rfl 2 (.slice qr (n + 1) cr)).set 6 rfl 3 (.slice qv F.length cv)
  have b0 := (S7.blk 6 rfl).cell 0
  have b1 := (S7.blk 6 rfl).cell 1
  have b2 := (S7.blk 6 rfl).cell 2
  have b3 := (S7.blk 6 rfl).cell 3
  refine bodyPost_ret (v := .tuple #[.agg #[.slice qo (n + 1) co, .slice qt ne ct, .slice qr (n + 1) cr, .slice qv F.length cv], .int .i64 0]) (by simp [results, Try.results18, go_sem, b0, b1, b2, b3, Try.sizeOf34, Try.isAgg34]) rfl ⟨_, rfl, ?_, S7.ext⟩
  exact ⟨qo, _, co, qt, _, ct, qr, _, cr, qv, _, cv, rfl, S7.rd 3 rfl (by omega), S7.rd 2 rfl (by omega), S7.rd 1 rfl (by omega), S7.rd 0 rfl (by omega), own_cap (S7.own 3 rfl), own_cap (S7.own 2 rfl), own_cap (S7.own 1 rfl), own_cap (S7.own 0 rfl)⟩
theorem RMakeG (N : Int) (pe : Option Addr) (ne ce : Nat) (pw : Option Addr) (nw cw : Nat) (E : List (Int × Int)) (hs : List Hd) (W : List (List ByteArray)) (w : World) (hE : Rd w 2 pe ne (encE E)) (hW : RdW w pw nw hs W) (hz : SzW W) :
    Calls Try.prog 18 #[.agg #[.int .i64 N, .slice pe ne ce, .slice pw nw cw]] w fun e w' => ∃ v, e = .returned (.tuple #[v, .int .i64 (rC (isB N E W))]) ∧ RowsV w' v (rO (isB N E W) N.toNat E) (rT (isB N E W) E) (rO (isB N E W) N.toNat (turnE E)) (rT (isB N E W) (turnE E)) ∧ Ext w w' := by
  cases hi : isB N E W with
  | false =>
    refine (RMakeG_no N pe ne ce pw nw cw E hs W w hE hW hz hi).mono ?_
    rintro e w' ⟨rfl, h⟩
    exact ⟨_, rfl, ⟨none, 0, 0, none, 0, 0, none, 0, 0, none, 0, 0, rfl, Rd.nil _ _ _, Rd.nil _ _ _, Rd.nil _ _ _, Rd.nil _ _ _, Nat.le_refl _, Nat.le_refl _, Nat.le_refl _, Nat.le_refl _⟩, h⟩
  | true =>
    have hN : 1 ≤ N := by
      unfold isB at hi
      rw [Bool.and_eq_true, Bool.and_eq_true] at hi
      exact (checkB_parts hi.1.1).1
    obtain ⟨n, rfl⟩ : ∃ n : Nat, N = (n : Int) := ⟨N.toNat, by omega⟩
    exact RMakeG_yes n pe ne ce pw nw cw E hs W w hE hW hz hi
end Go.Proofs.Ythlmcfbadhidbaa
/- Rows made of a graph are right, and tell the graph's edges; rows that are right tell the same, either way. No program in sight. -/
namespace Go.Proofs.Ythlmcfbadhidbaa
open Go Go.RowKit
theorem nodup_le {α : Type} [DecidableEq α] : ∀ {l m : List α}, l.Nodup → (∀ x ∈ l, x ∈ m) → l.length ≤ m.length
  | [], _, _, _ => by simp
  | a :: l, m, h, hm => by
    obtain ⟨h1, h2⟩ := List.nodup_cons.1 h
    have ha := hm a (by simp)
    have ih := nodup_le (m := m.erase a) h2 fun x hx => (List.mem_erase_of_ne (fun e => h1 (by rw [← e]; exact hx))).2 (hm x (by simp [hx]))
    rw [List.length_erase_of_mem ha] at ih
    have := List.length_pos_of_mem ha
    rw [List.length_cons]; omega
theorem rises_pick {α : Type} {lt : α → α → Bool} {l m : List α} (h : Rises lt l) (hs : m.Sublist l) : Rises lt m := List.Pairwise.sublist hs h
section
variable {n : Nat} {A : List (Int × Int)}
/-- the k-th offset is the length of what comes ahead -/
theorem off_at (hb : ∀ x ∈ A, 0 ≤ x.1 ∧ x.1 < n) {k : Nat} (hk : k < n + 1) : (nth (offL n A) k).toNat = (placesK A k).length := by
  rw [offL_nth A hk, placesK_len A (fun x hx => (hb x hx).1) k]; omega
theorem to_split (h : Rises lessE A) (hb : ∀ x ∈ A, 0 ≤ x.1 ∧ x.1 < n) {k : Nat} (hk : k < n) : ∃ t, toL A = (placesK A k).map (·.2) ++ ((placeE A k).map (·.2) ++ t) := by
  have h1 : placesK A n = A := places_all h hb
  have h2 : ∀ d j, ∃ t, placesK A (j + d) = placesK A j ++ t := by
    intro d
    induction d with
    | zero => intro j; exact ⟨[], by simp⟩
    | succ d ih =>
      intro j
      obtain ⟨t, ht⟩ := ih j
      exact ⟨t ++ placeE A (j + d), by rw [← Nat.add_assoc, placesK_step, ht, List.append_assoc]⟩
  obtain ⟨t, ht⟩ := h2 (n - (k + 1)) (k + 1)
  rw [show k + 1 + (n - (k + 1)) = n by omega, h1] at ht
  refine ⟨t.map (·.2), ?_⟩
  unfold toL
  conv => lhs; rw [ht, placesK_step]
  simp
theorem row_of (h : Rises lessE A) (hb : ∀ x ∈ A, 0 ≤ x.1 ∧ x.1 < n) {k : Nat} (hk : k < n) : rowL (offL n A) (toL A) k = (placeE A k).map (·.2) := by
  obtain ⟨t, ht⟩ := to_split h hb hk
  unfold rowL
  rw [off_at hb (by omega), off_at hb (by omega), placesK_step, List.length_append, ht]
  rw [List.drop_left' (by simp), Nat.add_sub_cancel_left, List.take_left' (by simp)]
theorem rowX_of (h : Rises lessE A) (hb : ∀ x ∈ A, 0 ≤ x.1 ∧ x.1 < n) {k : Nat} (hk : k < n) : rowX (offL n A) (toL A) k = placeE A k := by
  unfold rowX
  rw [row_of h hb hk, List.map_map]
  conv => rhs; rw [← List.map_id (placeE A k)]
  refine List.map_congr_left fun x hx => ?_
  unfold placeE at hx
  rw [List.mem_filter, decide_eq_true_eq] at hx
  simp only [Function.comp, id]
  rw [← hx.2]
theorem pairs_of (h : Rises lessE A) (hb : ∀ x ∈ A, 0 ≤ x.1 ∧ x.1 < n) : pairs (offL n A) (toL A) = A := by
  have : ∀ k, k ≤ n → pairsK (offL n A) (toL A) k = placesK A k := by
    intro k
    induction k with
    | zero => intro _; rfl
    | succ k ih => intro hk; rw [pairsK_step, placesK_step, ih (by omega), rowX_of h hb (by omega)]
  unfold pairs
  rw [offL_len, Nat.add_sub_cancel, this n (Nat.le_refl _), places_all h hb]
theorem half_of (h : Rises lessE A) (hb : ∀ x ∈ A, 0 ≤ x.1 ∧ x.1 < n ∧ 0 ≤ x.2 ∧ x.2 < n) (h1 : 1 ≤ n) (h2 : n ≤ 200) (h3 : A.length ≤ 2000) : halfB (offL n A) (toL A) = true := by
  have hb' : ∀ x ∈ A, 0 ≤ x.1 ∧ x.1 < n := fun x hx => ⟨(hb x hx).1, (hb x hx).2.1⟩
  have e0 : nth (offL n A) 0 = 0 := by
    rw [offL_nth A (by omega), List.countP_eq_zero.2 fun x hx => by have := (hb x hx).1; simp; omega]; rfl
  have en : nth (offL n A) n = A.length := by
    rw [offL_nth A (by omega), List.countP_eq_length.2 fun x hx => by have := (hb x hx).2.1; simp; omega]
  have es : sortB (offL n A) = true := by
    unfold sortB
    rw [List.all_eq_true]
    intro v hv
    rw [List.mem_range, offL_len] at hv
    rw [offL_nth A (by omega), offL_nth A (by omega), count_step]
    simp; omega
  unfold halfB offB
  rw [offL_len, e0, Nat.add_sub_cancel, en, es]
  have : (toL A).length = A.length := by simp [toL]
  rw [this]
  rw [decide_eq_true (by omega : 2 ≤ n + 1), decide_eq_true (by omega : n + 1 ≤ 201), decide_eq_true h3]
  simp only [decide_true, Bool.true_and, List.all_eq_true]
  intro v hv
  rw [List.mem_range] at hv
  rw [okRow_iff, row_of h hb' hv]
  refine ⟨fun x hx => ?_, ?_⟩
  · obtain ⟨y, hy, rfl⟩ := List.mem_map.1 hx
    unfold placeE at hy
    exact (hb y (List.mem_filter.1 hy).1).2.2
  · rw [Rises, List.pairwise_map]
    refine (h.sublist (List.filter_sublist (p := fun x : Int × Int => decide (x.1 = (v:Int))))).imp_of_mem fun {a b} ha hb hab => ?_
    have ha := List.mem_filter.1 ha
    have hb := List.mem_filter.1 hb
    rw [decide_eq_true_eq] at ha hb
    rw [lessE_iff] at hab
    simp only [ltI, decide_eq_true_eq]
    omega
end
theorem mem_row_of {n : Nat} {A : List (Int × Int)} (h : Rises lessE A) (hb : ∀ x ∈ A, 0 ≤ x.1 ∧ x.1 < n) {k : Nat} (hk : k < n) {y : Int} : y ∈ rowL (offL n A) (toL A) k ↔ ((k:Int), y) ∈ A := by
  rw [row_of h hb hk, List.mem_map]
  unfold placeE
  constructor
  · rintro ⟨x, hx, rfl⟩
    rw [List.mem_filter, decide_eq_true_eq] at hx
    rw [← hx.2]; exact hx.1
  · intro hx; exact ⟨_, List.mem_filter.2 ⟨hx, by simp⟩, rfl⟩
theorem turnE_mem {E : List (Int × Int)} {x : Int × Int} : x ∈ turnE E ↔ swapE x ∈ E := by
  unfold turnE
  rw [putAll_mem stoE, List.mem_map]
  constructor
  · rintro ⟨y, hy, rfl⟩; exact hy
  · intro h; exact ⟨_, h, rfl⟩
theorem turnE_rises (E : List (Int × Int)) : Rises lessE (turnE E) := putAll_rises stoE _
/-- what is made is right -/
theorem check_of {n : Nat} {A : List (Int × Int)} (h : Rises lessE A) (hb : ∀ x ∈ A, 0 ≤ x.1 ∧ x.1 < n ∧ 0 ≤ x.2 ∧ x.2 < n) (h1 : 1 ≤ n) (h2 : n ≤ 200) (h3 : A.length ≤ 2000) :
    checkR (offL n A) (toL A) (offL n (turnE A)) (toL (turnE A)) = true := by
  have hb' : ∀ x ∈ A, 0 ≤ x.1 ∧ x.1 < n := fun x hx => ⟨(hb x hx).1, (hb x hx).2.1⟩
  have hbt : ∀ x ∈ turnE A, 0 ≤ x.1 ∧ x.1 < n ∧ 0 ≤ x.2 ∧ x.2 < n := fun x hx => by
    have := hb _ (turnE_mem.1 hx)
    unfold swapE at this
    simp only at this
    omega
  have hbt' : ∀ x ∈ turnE A, 0 ≤ x.1 ∧ x.1 < n := fun x hx => ⟨(hbt x hx).1, (hbt x hx).2.1⟩
  have hnd : A.Nodup := h.imp fun {a b} hab e => by subst e; rw [lessE_iff] at hab; omega
  have hlen : (turnE A).length = A.length := by
    refine Nat.le_antisymm ?_ ?_
    · have := putAll_len lessE (A.map swapE); rw [List.length_map] at this; exact this
    · have hnt : (turnE A).Nodup := (turnE_rises A).imp fun {a b} hab e => by subst e; rw [lessE_iff] at hab; omega
      have : A.Nodup := hnd
      have h4 := nodup_le (m := (turnE A).map swapE) hnd fun x hx => List.mem_map.2 ⟨swapE x, turnE_mem.2 (by rw [swapE_swapE]; exact hx), swapE_swapE x⟩
      rwa [List.length_map] at h4
  unfold checkR
  rw [half_of h hb h1 h2 h3, half_of (turnE_rises A) hbt h1 h2 (by omega), pairs_of h hb', offL_len, offL_len]
  have e1 : (toL A).length = (toL (turnE A)).length := by simp [toL, hlen]
  rw [decide_eq_true e1]
  simp only [decide_true, Bool.true_and, List.all_eq_true]
  intro x hx
  rw [inB_iff]
  have hx2 := hb x hx
  obtain ⟨u, hu⟩ : ∃ u : Nat, x.2 = (u:Int) := ⟨x.2.toNat, by omega⟩
  rw [hu, Int.toNat_natCast, mem_row_of (turnE_rises A) hbt' (by omega), turnE_mem]
  have : swapE ((u:Int), x.1) = x := by unfold swapE; simp only; rw [← hu]
  rw [this]; exact hx
/-! ### rows that are right tell the same, either way -/
theorem pairs_rises {O T : List Int} (h : halfB O T = true) : ∀ k, k ≤ O.length - 1 → Rises lessE (pairsK O T k)
  | 0, _ => List.Pairwise.nil
  | k + 1, hk => by
    rw [pairsK_step]
    refine List.pairwise_append.2 ⟨pairs_rises h k (by omega), ?_, fun a ha b hb => ?_⟩
    · unfold rowX
      rw [List.pairwise_map]
      refine (row_rises h (by omega)).imp fun {a b} hab => ?_
      rw [lessE_iff]
      simp [ltI] at hab
      right; exact ⟨rfl, hab⟩
    · unfold pairsK rowX at ha
      unfold rowX at hb
      simp only [List.mem_flatMap, List.mem_range, List.mem_map] at ha hb
      obtain ⟨v, h1, y, _, rfl⟩ := ha
      obtain ⟨z, _, rfl⟩ := hb
      rw [lessE_iff]; left; simp only; omega
theorem pairs_count {O T : List Int} (h : halfB O T = true) : (pairs O T).length = T.length := by
  obtain ⟨r1, r2, r3, r4, r5, r6⟩ := offB_parts (halfB_off h)
  have hok := offOk_of (halfB_off h)
  have : ∀ k, k < O.length → (pairsK O T k).length = (nth O k).toNat := by
    intro k
    induction k with
    | zero => intro _; rw [r4]; rfl
    | succ k ih =>
      intro hk
      rw [pairsK_step, List.length_append, ih (by omega)]
      unfold rowX
      rw [List.length_map, rowL_len hok hk]
      have := hok.le k hk
      have := hok.lo k (by omega)
      omega
  unfold pairs
  rw [this _ (by omega), r5]; omega
theorem mem_all {α : Type} [DecidableEq α] {l m : List α} (h : l.Nodup) (hs : ∀ x ∈ l, x ∈ m) (hl : m.length ≤ l.length) {x : α} (hx : x ∈ m) : x ∈ l := by
  by_cases hn : x ∈ l
  · exact hn
  · have h1 := nodup_le (m := m.erase x) h fun y hy => (List.mem_erase_of_ne (fun (e : y = x) => hn (by rw [← e]; exact hy))).2 (hs y hy)
    rw [List.length_erase_of_mem hx] at h1
    have := List.length_pos_of_mem hx
    omega
/-- each pair of the other rows stands in these, turned -/
theorem check_turn {O T R V : List Int} (h : checkR O T R V = true) {x : Int × Int} : x ∈ pairs O T ↔ swapE x ∈ pairs R V := by
  obtain ⟨h1, h2, h3, h4⟩ := checkR_half h
  have hall : ∀ y ∈ pairs O T, swapE y ∈ pairs R V := fun y hy => by
    unfold checkR at h
    simp only [Bool.and_eq_true, List.all_eq_true] at h
    have h5 := h.2 y hy
    rw [inB_iff] at h5
    have hb := pair_bd h3 hy
    exact mem_pairs.2 ⟨y.2.toNat, by omega, by unfold swapE; simp only; omega, h5⟩
  refine ⟨hall x, fun hx => ?_⟩
  have hnd : (pairs O T).Nodup := (pairs_rises h3 _ (Nat.le_refl _)).imp fun {a b} hab e => by subst e; rw [lessE_iff] at hab; omega
  have hnd2 : ((pairs O T).map swapE).Nodup := by
    rw [List.Nodup, List.pairwise_map]
    exact hnd.imp fun {a b} hab e => hab (by have := congrArg swapE e; rwa [swapE_swapE, swapE_swapE] at this)
  have h6 := mem_all hnd2 (fun y hy => by obtain ⟨z, hz, rfl⟩ := List.mem_map.1 hy; exact hall z hz) (by rw [List.length_map, pairs_count h3, pairs_count h4, h2]; exact Nat.le_refl _) hx
  obtain ⟨z, hz, e⟩ := List.mem_map.1 h6
  have : z = x := by have := congrArg swapE e; rwa [swapE_swapE, swapE_swapE] at this
  exact this ▸ hz
theorem row_turn {O T R V : List Int} (h : checkR O T R V = true) {v u : Nat} (hv : v < O.length - 1) (hu : u < O.length - 1) : inB (rowL O T u) v = inB (rowL R V v) u := by
  have h1 := (checkR_half h).1
  rw [Bool.eq_iff_iff, inB_iff, inB_iff]
  have e1 : (v:Int) ∈ rowL O T u ↔ ((u:Int), (v:Int)) ∈ pairs O T := by
    rw [mem_pairs]
    constructor
    · intro h; exact ⟨u, hu, rfl, h⟩
    · rintro ⟨k, _, h2, h3⟩; simp only at h2; have : u = k := by omega
      subst this; exact h3
  have e2 : (u:Int) ∈ rowL R V v ↔ ((v:Int), (u:Int)) ∈ pairs R V := by
    rw [mem_pairs]
    constructor
    · intro h; exact ⟨v, by omega, rfl, h⟩
    · rintro ⟨k, _, h2, h3⟩; simp only at h2; have : v = k := by omega
      subst this; exact h3
  rw [e1, e2, check_turn h]; rfl
end Go.Proofs.Ythlmcfbadhidbaa
/- Rows that are right: where places lead to, forth and back. -/
namespace Go.Proofs.Ythlmcfbadhidbaa
open Go Go.RowKit
/-- where a place leads to -/
def nxR (back : Bool) (O T R V : List Int) : Nat → List Int := if back = true then rowL R V else rowL O T
theorem row_in {O T : List Int} (h : halfB O T = true) : InN (rowL O T) (O.length - 1) := by
  intro u hu x hx
  unfold halfB at h
  rw [Bool.and_eq_true] at h
  have := List.all_eq_true.1 h.2 u (List.mem_range.2 hu)
  exact (okRow_iff.1 this).1 x hx
theorem nxR_in {O T R V : List Int} (h : checkR O T R V = true) (back : Bool) : InN (nxR back O T R V) (O.length - 1) := by
  obtain ⟨h1, h2, h3, h4⟩ := checkR_half h
  cases back with
  | false => exact row_in h3
  | true => have := row_in h4; rw [← h1] at this; exact this
theorem nxR_rev {O T R V : List Int} (h : checkR O T R V = true) (back : Bool) : Rev (nxR back O T R V) (nxR (!back) O T R V) (O.length - 1) := by
  have key : ∀ u v : Nat, u < O.length - 1 → v < O.length - 1 → ((v : Int) ∈ rowL O T u ↔ (u : Int) ∈ rowL R V v) := fun u v hu hv => by
    have := row_turn h hv hu
    rw [Bool.eq_iff_iff, inB_iff, inB_iff] at this
    exact this
  cases back with
  | false => exact key
  | true => exact fun u v hu hv => (key v u hv hu).symm
/-- all ways, in a direction -/
def edgD (back : Bool) (O T : List Int) : List (Int × Int) := if back = true then (pairs O T).map swapE else pairs O T
theorem edgD_bd {O T : List Int} (h : halfB O T = true) (back : Bool) : ∀ x ∈ edgD back O T, 0 ≤ x.1 ∧ x.1 < ((O.length - 1 : Nat) : Int) ∧ 0 ≤ x.2 ∧ x.2 < ((O.length - 1 : Nat) : Int) := by
  intro x hx
  cases back with
  | false => exact pair_bd h hx
  | true =>
    obtain ⟨y, hy, rfl⟩ := List.mem_map.1 hx
    have := pair_bd h hy
    exact ⟨this.2.2.1, this.2.2.2, this.1, this.2.1⟩
theorem edgD_mem {O T R V : List Int} (h : checkR O T R V = true) (back : Bool) : ∀ u v : Nat, u < O.length - 1 → v < O.length - 1 → (((u : Int), (v : Int)) ∈ edgD back O T ↔ (v : Int) ∈ nxR back O T R V u) := by
  have key : ∀ u v : Nat, u < O.length - 1 → (((u : Int), (v : Int)) ∈ pairs O T ↔ (v : Int) ∈ rowL O T u) := fun u v hu => by
    rw [mem_pairs]
    constructor
    · rintro ⟨k, h1, h2, h3⟩
      have : u = k := by simp only at h2; omega
      subst this; exact h3
    · intro h1; exact ⟨u, hu, rfl, h1⟩
  intro u v hu hv
  cases back with
  | false => exact key u v hu
  | true =>
    have e : ((u : Int), (v : Int)) ∈ edgD true O T ↔ ((v : Int), (u : Int)) ∈ pairs O T := by
      show _ ∈ (pairs O T).map swapE ↔ _
      rw [List.mem_map]
      constructor
      · rintro ⟨y, hy, e⟩
        unfold swapE at e
        injection e with e1 e2
        rw [← e1, ← e2]; exact hy
      · intro h1; exact ⟨_, h1, rfl⟩
    rw [e, key v u hv]
    exact (nxR_rev h true u v hu hv).symm
theorem row_rises8 {O T R V : List Int} (h : checkR O T R V = true) (back : Bool) {u : Nat} (hu : u < O.length - 1) : Rises ltI (nxR back O T R V u) := by
  obtain ⟨h1, h2, h3, h4⟩ := checkR_half h
  cases back with
  | false => exact row_rises h3 hu
  | true => exact row_rises h4 (by omega)
/-- levels, as the chapter says: a row; the error -/
def levC (ck : Bool) (O : List Int) (s : Int) : Int := if ck = true then (if 0 ≤ s ∧ s < (O.length : Int) - 1 then 0 else 1) else 40
def levR (ck back : Bool) (O T R V : List Int) (s : Int) : List Int := if levC ck O s = 0 then (List.range (O.length - 1)).map fun v => lev (nxR back O T R V) (O.length - 1) s.toNat v else []
end Go.Proofs.Ythlmcfbadhidbaa
/- The order of places by their ways (chapter 11), in plain Lean. -/
namespace Go.Proofs.Ythlmcfbadhidbaa
open Go Go.RowKit
/-- more ways first; of as many the lesser place -/
def ltW (a b : Int × Int) : Bool := decide (b.2 < a.2) || (decide (a.2 = b.2) && decide (a.1 < b.1))
theorem ltW_iff {a b : Int × Int} : ltW a b = true ↔ b.2 < a.2 ∨ (a.2 = b.2 ∧ a.1 < b.1) := by
  unfold ltW
  rw [Bool.or_eq_true, Bool.and_eq_true, decide_eq_true_eq, decide_eq_true_eq, decide_eq_true_eq]
theorem ltW_no {a b : Int × Int} : ltW a b = false ↔ ¬ (b.2 < a.2 ∨ (a.2 = b.2 ∧ a.1 < b.1)) := by
  rw [← ltW_iff]; simp
theorem stoW : STO ltW where
  irrefl a := by rw [ltW_no]; omega
  trans a b c h k := by rw [ltW_iff] at *; omega
  tri a b h k := by rw [ltW_no] at *; exact Prod.ext (by omega) (by omega)
/-- how many ways a place has -/
def wayN (O R : List Int) (v : Nat) : Int := nth O (v + 1) - nth O v + nth R (v + 1) - nth R v
/-- places with their ways -/
def waysP (O R : List Int) (n : Nat) : List (Int × Int) := (List.range n).map fun v : Nat => ((v : Int), wayN O R v)
theorem waysP_len (O R : List Int) (n : Nat) : (waysP O R n).length = n := by simp [waysP]
theorem waysP_nodup (O R : List Int) (n : Nat) : (waysP O R n).Nodup := by
  unfold waysP
  refine List.Pairwise.map _ (fun a b h e => h ?_) List.nodup_range
  have := congrArg Prod.fst e
  simp only at this
  omega
theorem waysP_mem {O R : List Int} {n : Nat} {x : Int × Int} : x ∈ waysP O R n ↔ ∃ v : Nat, v < n ∧ x = ((v : Int), wayN O R v) := by
  unfold waysP
  rw [List.mem_map]
  constructor
  · rintro ⟨v, h, rfl⟩; exact ⟨v, List.mem_range.1 h, rfl⟩
  · rintro ⟨v, h, rfl⟩; exact ⟨v, List.mem_range.2 h, rfl⟩
theorem waysP_step (O R : List Int) (n : Nat) : waysP O R (n + 1) = waysP O R n ++ [((n : Int), wayN O R n)] := by
  unfold waysP; rw [List.range_succ, List.map_append]; rfl
/-- what the document says: of each number of ways, the greatest first, the places -/
def byP (O R : List Int) (n k : Nat) : List (Int × Int) := (List.range k).flatMap fun i : Nat => ((List.range n).filter fun v => wayN O R v == 4000 - (i : Int)).map fun v : Nat => ((v : Int), wayN O R v)
def byL (O R : List Int) (n : Nat) : List Int := (byP O R n 4001).map (·.1)
theorem byP_step (O R : List Int) (n k : Nat) : byP O R n (k + 1) = byP O R n k ++ ((List.range n).filter fun v => wayN O R v == 4000 - (k : Int)).map fun v : Nat => ((v : Int), wayN O R v) := by
  unfold byP; rw [List.range_succ, List.flatMap_append]; simp
theorem byP_mem {O R : List Int} {n k : Nat} {x : Int × Int} : x ∈ byP O R n k ↔ ∃ v : Nat, v < n ∧ x = ((v : Int), wayN O R v) ∧ wayN O R v ≤ 4000 ∧ 4000 - k < wayN O R v := by
  unfold byP
  rw [List.mem_flatMap]
  constructor
  · rintro ⟨i, hi, hx⟩
    obtain ⟨v, hv, rfl⟩ := List.mem_map.1 hx
    obtain ⟨h1, h2⟩ := List.mem_filter.1 hv
    have hi' := List.mem_range.1 hi
    have h3 : wayN O R v = 4000 - i := by simpa using h2
    exact ⟨v, List.mem_range.1 h1, rfl, by omega, by omega⟩
  · rintro ⟨v, h1, rfl, h2, h3⟩
    refine ⟨(4000 - wayN O R v).toNat, List.mem_range.2 (by omega), List.mem_map.2 ⟨v, List.mem_filter.2 ⟨List.mem_range.2 h1, ?_⟩, rfl⟩⟩
    simp; omega
theorem byP_rises (O R : List Int) (n : Nat) : ∀ k, Rises ltW (byP O R n k)
  | 0 => by simp [byP]
  | k + 1 => by
    rw [byP_step, Rises, List.pairwise_append]
    refine ⟨byP_rises O R n k, ?_, ?_⟩
    · have h : (List.range n).Pairwise (· < ·) := List.pairwise_lt_range
      refine List.Pairwise.map _ (fun a b (hab : a < b ∧ wayN O R a = wayN O R b) => ?_) (R := fun a b => a < b ∧ wayN O R a = wayN O R b) ?_
      · rw [ltW_iff]; right; simp only; omega
      · have h2 := h.filter (fun v => wayN O R v == 4000 - (k : Int))
        refine h2.imp_of_mem fun {a b} ha hb hab => ⟨hab, ?_⟩
        have e1 : wayN O R a = 4000 - k := by simpa using (List.mem_filter.1 ha).2
        have e2 : wayN O R b = 4000 - k := by simpa using (List.mem_filter.1 hb).2
        omega
    · intro a ha b hb
      obtain ⟨v, _, rfl, _, h1⟩ := byP_mem.1 ha
      obtain ⟨u, hu, rfl⟩ := List.mem_map.1 hb
      have e : wayN O R u = 4000 - k := by simpa using (List.mem_filter.1 hu).2
      rw [ltW_iff]; left; simp only; omega
/-- what rises and holds all places is what the document says -/
theorem by_uniq {O R : List Int} {n : Nat} (hw : ∀ v, v < n → 0 ≤ wayN O R v ∧ wayN O R v ≤ 4000) {out : List (Int × Int)} (h1 : Rises ltW out) (hp : out.Perm (waysP O R n)) : out = byP O R n 4001 := by
  refine rises_uniq stoW _ _ h1 (byP_rises O R n 4001) fun x => ?_
  rw [hp.mem_iff, waysP_mem, byP_mem]
  constructor
  · rintro ⟨v, h, rfl⟩
    have := hw v h
    exact ⟨v, h, rfl, by omega, by omega⟩
  · rintro ⟨v, h, rfl, _⟩; exact ⟨v, h, rfl⟩
end Go.Proofs.Ythlmcfbadhidbaa
/- The program's heap of places (chapter 11): its methods. -/
namespace Go.Proofs.Ythlmcfbadhidbaa
open Go Go.RowKit
theorem HLen (q : Option Addr) (n c : Nat) (w : World) (hn : n ≤ 9223372036854775807) : Calls Try.prog 113 #[.slice q n c] w fun e w' => e = .returned (.int .i64 n) ∧ w' = w := by
  go_enter Try.func113, Try.ntmps113
  go_wp2
  go_ret
  exact ⟨rfl, rfl⟩

set_option maxRecDepth 100000 in
set_option maxHeartbeats 4000000 in
theorem HLess (q : Option Addr) (n c : Nat) (X : List (Int × Int)) (i k : Nat) (w : World) (hl : Rd w 2 q n (encE X)) (hi : i < n) (hk : k < n) :
    Calls Try.prog 114 #[.slice q n c, .int .i64 i, .int .i64 k] w fun e w' => e = .returned (.bool (ltW (nth X i) (nth X k))) ∧ Ext w w' := by
  have p1 := hl.ptr
  have n2 := hl.small
  have g1 := hl.cE2 hi
  have g2 := hl.cE2 hk
  have g3 := hl.cE hi
  have g4 := hl.cE hk
  have d1 : (0:Int) ≤ i := by omega
  have d2 : (i:Int) < n := by omega
  have d3 : (0:Int) ≤ k := by omega
  have d4 : (k:Int) < n := by omega
  unfold ltW
  generalize nth X i = a at *
  generalize nth X k = b at *
  clear hl hi hk
  have S0 := Lib.hid (Sep.start w)
  by_cases h1 : b.2 < a.2
  · have e1 : decide (b.2 < a.2) = true := by simpa using h1
    rw [e1, Bool.true_or]
    go_enter Try.func114, Try.ntmps114
    go_wp2
    have u1 := fun x : ExtOf w => x.ext.cell g1
    have u2 := fun x : ExtOf w => x.ext.cell g2
    have u3 := fun x : ExtOf w => x.ext.cell g3
    have u4 := fun x : ExtOf w => x.ext.cell g4
    refine wp_region_ext (by kernel_rfl) (by kernel_rfl) ?_
    repeat (go_big_quiet_step ((fail)))
    refine wpQuiet_nil ?_
    rintro w9 ⟨⟨_, hb9⟩, rfl⟩
    go_wp2
    go_ret
    exact ⟨rfl, hb9⟩
  · have e1 : decide (b.2 < a.2) = false := by simpa using h1
    rw [e1, Bool.false_or]
    by_cases h2 : a.2 = b.2
    · have e2 : (a.2 == b.2) = true := by simpa using h2
      rw [decide_eq_true h2, Bool.true_and]
      clear h1 h2
      go_enter Try.func114, Try.ntmps114
      go_wp2
      have u1 := fun x : ExtOf w => x.ext.cell g1
      have u2 := fun x : ExtOf w => x.ext.cell g2
      have u3 := fun x : ExtOf w => x.ext.cell g3
      have u4 := fun x : ExtOf w => x.ext.cell g4
      refine wp_region_ext (by kernel_rfl) (by kernel_rfl) ?_
      repeat (go_big_quiet_step ((fail)))
      refine wpQuiet_nil ?_
      rintro w9 ⟨⟨_, hb9⟩, rfl⟩
      go_wp2
      go_ret
      exact ⟨rfl, hb9⟩
    · have e2 : (a.2 == b.2) = false := by simpa using h2
      rw [decide_eq_false h2, Bool.false_and]
      clear h1 h2
      go_enter Try.func114, Try.ntmps114
      go_wp2
      have u1 := fun x : ExtOf w => x.ext.cell g1
      have u2 := fun x : ExtOf w => x.ext.cell g2
      have u3 := fun x : ExtOf w => x.ext.cell g3
      have u4 := fun x : ExtOf w => x.ext.cell g4
      refine wp_region_ext (by kernel_rfl) (by kernel_rfl) ?_
      repeat (go_big_quiet_step ((fail)))
      refine wpQuiet_nil ?_
      rintro w9 ⟨⟨_, hb9⟩, rfl⟩
      go_wp2
      go_ret
      exact ⟨rfl, hb9⟩
end Go.Proofs.Ythlmcfbadhidbaa
/- The program's heap of places (chapter 11): Swap. -/
namespace Go.Proofs.Ythlmcfbadhidbaa
open Go Go.RowKit
theorem pc_set {Γ : List Pc} {j : Nat} {p q : Pc} (h : Γ[j]? = some p) : (Γ.set j q)[j]? = some q := by
  have := (List.getElem?_eq_some_iff.1 h).1
  rw [List.getElem?_set, if_pos rfl, if_pos this]
theorem encE_set2 {X : List (Int × Int)} {i : Nat} (x : Int × Int) (h : i < X.length) : encE (X.set i x) = ((encE X).set (i * 2) (.int .i64 x.1)).set (i * 2 + 1) (.int .i64 x.2) := by
  rw [← encE_set X i x h]
  have hl := encE_len X
  have e : encE X = (encE X).take (i * 2) ++ (encE X).drop (i * 2) := (List.take_append_drop _ _).symm
  apply List.ext_getElem?
  intro m
  rw [List.getElem?_set, List.getElem?_set]
  simp only [List.length_set, List.getElem?_append, List.length_append, List.length_take, List.length_cons, List.length_nil, List.getElem?_take, List.getElem?_drop]
  by_cases h1 : m < i * 2
  · rw [if_pos (by omega), if_pos (by omega), if_pos h1, if_neg (by omega), if_neg (by omega)]
  · by_cases h2 : m = i * 2
    · subst h2
      rw [if_pos (by omega), if_neg (by omega), if_neg (by omega), if_pos rfl, if_pos (by omega), show i * 2 - min (i * 2) (encE X).length = 0 by omega]; rfl
    · by_cases h3 : m = i * 2 + 1
      · subst h3
        rw [if_pos (by omega), if_neg (by omega), if_pos rfl, if_pos (by omega), show i * 2 + 1 - min (i * 2) (encE X).length = 1 by omega]; rfl
      · rw [if_neg (by omega), if_neg (by omega), if_neg (by omega)]
        congr 1; omega
theorem set_again (l : List Value) (m : Nat) (a b : Value) : (((l.set m a).set (m + 1) b).set m a).set (m + 1) b = (l.set m a).set (m + 1) b := by
  rw [List.set_comm b a (by omega : m + 1 ≠ m), List.set_set, List.set_set]
theorem encE_swap {X : List (Int × Int)} {i k : Nat} (hi : i < X.length) (hk : k < X.length) (hik : i ≠ k) : ((((encE X).set (i * 2) (.int .i64 (nth X k).1)).set (i * 2 + 1) (.int .i64 (nth X k).2)).set (k * 2) (.int .i64 (nth X i).1)).set (k * 2 + 1) (.int .i64 (nth X i).2) = encE (swapL X i k) := by
  unfold swapL
  rw [encE_set2 _ (by simpa using hk), encE_set2 _ hi]
set_option maxRecDepth 100000 in
set_option maxHeartbeats 4000000 in
theorem HSwapNe (g n c : Nat) (X : List (Int × Int)) (i k : Nat) (w w0 : World) (Γ : List Pc) (j : Nat) (S : Sep w0 w Γ) (hj : Γ[j]? = some (.own 63 2 (some ⟨g, 0, none⟩) n c (encE X))) (hi : i < n) (hk : k < n) (hik : i ≠ k) (hn : n ≤ 1000000) :
    Calls Try.prog 117 #[.slice (some ⟨g, 0, none⟩) n c, .int .i64 i, .int .i64 k] w fun e w' => e = .returned (.tuple #[]) ∧ Sep w0 w' (Γ.set j (.own 63 2 (some ⟨g, 0, none⟩) n c (encE (swapL X i k)))) := by
  have ho := S.own j hj
  have hl := S.rd j hj (by omega)
  have g1 := hl.cE2 hi
  have g2 := hl.cE2 hk
  have g3 := hl.cE hi
  have g4 := hl.cE hk
  rw [adr_some, Nat.zero_add] at g1 g2 g3 g4
  have k1 : w.frozen? ⟨g, i * 2, none⟩ = false := by have := own_frozen ho (by omega) (i * 2); rwa [adr_some, Nat.zero_add] at this
  have k2 : w.frozen? ⟨g, i * 2 + 1, none⟩ = false := by have := own_frozen ho (by omega) (i * 2 + 1); rwa [adr_some, Nat.zero_add] at this
  have k3 : w.frozen? ⟨g, k * 2, none⟩ = false := by have := own_frozen ho (by omega) (k * 2); rwa [adr_some, Nat.zero_add] at this
  have k4 : w.frozen? ⟨g, k * 2 + 1, none⟩ = false := by have := own_frozen ho (by omega) (k * 2 + 1); rwa [adr_some, Nat.zero_add] at this
  have z1 : g < w.heap.size := (S.blt j hj (by omega)).2
  have d1 : (0:Int) ≤ i := by omega
  have d2 : (i:Int) < n := by omega
  have d3 : (0:Int) ≤ k := by omega
  have d4 : (k:Int) < n := by omega
  have x1 : i * 2 ≠ k * 2 := by omega
  have x2 : i * 2 + 1 ≠ k * 2 := by omega
  have x3 : i * 2 ≠ k * 2 + 1 := by omega
  have x4 : i * 2 + 1 ≠ k * 2 + 1 := by omega
  have hnX := hl.nE
  have HX := Lib.hid (encE_swap (X := X) (i := i) (k := k) (by rw [← hnX]; exact hi) (by rw [← hnX]; exact hk) hik)
  generalize nth X i = a at *
  generalize nth X k = b at *
  clear hl ho
  have SH := Lib.hid S; clear S
  have mixed : (Try.prog).follows Departure.mixedOrders = true := by kernel_rfl
  clear hnX
  go_enter Try.func117, Try.ntmps117
  go_wp2
  go_region_o
  all_goals
    go_end0
    refine ⟨rfl, ?_⟩
    have T := ((SH.out.setRow2 j hj (i * 2) (by omega) (.int .i64 b.1) (.int .i64 b.2)).setRow2 j (pc_set hj) (k * 2) (by omega) (.int .i64 a.1) (.int .i64 a.2)).drew
    simp only [adr_some, Nat.zero_add, List.set_set] at T
    rw [← HX.out]
    exact T
set_option maxRecDepth 100000 in
set_option maxHeartbeats 4000000 in
theorem HSwapEq (g n c : Nat) (X : List (Int × Int)) (i : Nat) (w w0 : World) (Γ : List Pc) (j : Nat) (S : Sep w0 w Γ) (hj : Γ[j]? = some (.own 63 2 (some ⟨g, 0, none⟩) n c (encE X))) (hi : i < n) (hn : n ≤ 1000000) :
    Calls Try.prog 117 #[.slice (some ⟨g, 0, none⟩) n c, .int .i64 i, .int .i64 i] w fun e w' => e = .returned (.tuple #[]) ∧ Sep w0 w' (Γ.set j (.own 63 2 (some ⟨g, 0, none⟩) n c (encE (swapL X i i)))) := by
  have ho := S.own j hj
  have hl := S.rd j hj (by omega)
  have g1 := hl.cE2 hi
  have g3 := hl.cE hi
  rw [adr_some, Nat.zero_add] at g1 g3
  have k1 : w.frozen? ⟨g, i * 2, none⟩ = false := by have := own_frozen ho (by omega) (i * 2); rwa [adr_some, Nat.zero_add] at this
  have k2 : w.frozen? ⟨g, i * 2 + 1, none⟩ = false := by have := own_frozen ho (by omega) (i * 2 + 1); rwa [adr_some, Nat.zero_add] at this
  have z1 : g < w.heap.size := (S.blt j hj (by omega)).2
  have d1 : (0:Int) ≤ i := by omega
  have d2 : (i:Int) < n := by omega
  have hnX := hl.nE
  have HX : Hid (encE (X.set i (nth X i)) = encE (swapL X i i)) := by unfold Hid swapL; rw [List.set_set]
  rw [encE_set2 _ (by omega)] at HX
  generalize nth X i = a at *
  clear hl ho
  have SH := Lib.hid S; clear S
  have mixed : (Try.prog).follows Departure.mixedOrders = true := by kernel_rfl
  clear hnX
  go_enter Try.func117, Try.ntmps117
  go_wp2
  go_region_o
  all_goals
    go_end0
    refine ⟨rfl, ?_⟩
    have T := ((SH.out.setRow2 j hj (i * 2) (by omega) (.int .i64 a.1) (.int .i64 a.2)).setRow2 j (pc_set hj) (i * 2) (by omega) (.int .i64 a.1) (.int .i64 a.2)).drew
    simp only [adr_some, Nat.zero_add, List.set_set] at T
    rw [set_again] at T
    rw [← HX.out]
    exact T
theorem HSwap (q : Option Addr) (n c : Nat) (X : List (Int × Int)) (i k : Nat) (w w0 : World) (Γ : List Pc) (j : Nat) (S : Sep w0 w Γ) (hj : Γ[j]? = some (.own 63 2 q n c (encE X))) (hi : i < n) (hk : k < n) (hn : n ≤ 1000000) :
    Calls Try.prog 117 #[.slice q n c, .int .i64 i, .int .i64 k] w fun e w' => e = .returned (.tuple #[]) ∧ Sep w0 w' (Γ.set j (.own 63 2 q n c (encE (swapL X i k)))) := by
  obtain ⟨g, rfl, _⟩ := own_block (S.own j hj) (by omega)
  by_cases e : i = k
  · subst e
    exact HSwapEq g n c X i w w0 Γ j S hj hi hn
  · exact HSwapNe g n c X i k w w0 Γ j S hj hi hk e hn
end Go.Proofs.Ythlmcfbadhidbaa
/- An own row is small. -/
namespace Go.Proofs.Ythlmcfbadhidbaa
open Go Go.RowKit
theorem own_sm {w : World} {base : Nat} {e : TypeId} {size : Nat} {q : Option Addr} {n c : Nat} {xs : List Value} (h : w.ownsRow base e size (.slice q n c) n xs) : n ≤ 9223372036854775807 := by
  rcases h.2 with ⟨_, h2⟩ | ⟨g, cap, cur, h1, _, _, h3, h4, _⟩
  · omega
  · unfold maxLen at h4; omega
theorem Sep.rdx {w0 w : World} {Γ : List Pc} (S : Sep w0 w Γ) (i : Nat) {e : TypeId} {size : Nat} {q : Option Addr} {n c : Nat} {xs : List Value} (h : Γ[i]? = some (.own e size q n c xs)) : Rd w size q n xs := Rd.of_own (S.own i h) (own_sm (S.own i h))
end Go.Proofs.Ythlmcfbadhidbaa
/- The program's heap of places (chapter 11): Push, Pop. -/
namespace Go.Proofs.Ythlmcfbadhidbaa
open Go Go.RowKit
attribute [local go_sem] Oper.semAt_some
/-- the builtin append, by what it yields -/
theorem operwp_append {P : Program} {o : Oper} {a : Act} {w w' : World} {K : Act → World → Prop} {Q : Exit → Act → World → Prop} (s x : Operand) (t : TypeId) {vs vx v : Value}
    (ho : o.op = .call { callee := .builtin .append, args := #[s, x], argTypes := #[t, t] }) (hs : a.eval s = vs) (hx : a.eval x = vx) (hrun : (Builtin.append_ #[t, t] o.type #[vs, vx]).run P w = .ok v w') (h : K (a.put o.dst v) w') : o.wp P a w K Q := by
  unfold Oper.wp execOp
  simp only [ho, resolve, invoke, builtin, Sem.run_bind, Sem.run_pure, Result.andThen_ok, List.map_toArray, List.map_cons, List.map_nil, hs, hx, hrun]
  exact h
/-- what is put onto the heap -/
def plV (x : Int × Int) : Value := .iface 63 (.agg #[.int .i64 x.1, .int .i64 x.2])
theorem two_set {p0 p1 : Pc} {Γ : List Pc} {j jb : Nat} (h : j ≠ jb) {a b : Pc} (hb : Γ[jb]? = some b) : ((p0 :: p1 :: Γ).set (j + 2) a)[jb + 2]? = some b := by
  rw [List.getElem?_set_ne (by omega)]; exact hb
theorem taPlace (a b : Int) (W : World) : (Instr.typeAssert (.iface 63 (.agg #[.int .i64 a, .int .i64 b])) 20 63 true).run Try.prog W = .ok (.tuple #[.agg #[.int .i64 a, .int .i64 b], .bool true]) W := by kernel_rfl
theorem infPla : ((Try.prog).info? 63).map (fun i => (i.zero, i.size, i.bytes)) = some (some (.agg #[.int .i64 0, .int .i64 0]), 2, 16) := by kernel_rfl
theorem Sep.alrw {w0 w : World} {Γ : List Pc} (S : Sep w0 w Γ) (cs : Array Value) (e : TypeId) (size n g : Nat) (hg : w.heap.size = g) (hm : n ≤ maxLen) (hs : cs.size = n * size) : Sep w0 (w.alloc (.cells cs e)) (.own e size (some ⟨g, 0, none⟩) n n cs.toList :: Γ) := by
  subst hg
  exact S.fresh (Ext.alloc (Below.refl _ _) _) (World.ownsRow_lit w cs n (Nat.le_refl _) hm hs) (Nat.le_refl _)
theorem Sep.appended {w0 w : World} {Γ : List Pc} (S : Sep w0 w Γ) (j : Nat) (t ty e : TypeId) (i : TypeInfo) (z : Value) (size bytes : Nat) (ht : (Try.prog).underlying t = some (.slice e)) (hi : (Try.prog).info? e = some i) (hz : i.zero = some z)
    (hsize : i.size = size) (hby : i.bytes = bytes) (hzs : z.cells.size = size) (hsz : 0 < size)
    (q : Option Addr) (n cq : Nat) (xs : List Value) (hj : Γ[j]? = some (.own e size q n cq xs)) (A : Option Addr) (m c : Nat) (news : List Value) (hr : Rd w size A m news) (h1 : ∀ u ∈ news, u.oneCell' = true)
    (hbytes : (n + m) * bytes ≤ 140737488355328) (h63 : n + m ≤ 140737488355328) :
    ∃ q' c' w', (Builtin.append_ #[t, t] ty #[.slice q n cq, .slice A m c]).run Try.prog w = .ok (.slice q' (n + m) c') w' ∧ Sep w0 w' (Γ.set j (.own e size q' (n + m) c' (xs ++ news))) := by
  obtain ⟨q', c', w', hrun, ho', hg, hat, _⟩ := run_append_rd (P := Try.prog) w w0.heap.size t ty e i z size bytes ht hi hz hsize hby hzs hsz q n cq xs (S.own j hj) A m c news hr h1 hbytes h63 S.ext.size
  refine ⟨q', c', w', hrun, S.put j hj _ hg (fun k hk => hk) (own_base ho' (Nat.zero_le _)) fun k hk => ?_⟩
  rcases hat with h | h
  · exact .inl (h.symm.trans hk)
  · have : some w.heap.size = some k := h.symm.trans hk
    injection this with this
    exact .inr (by omega)
set_option maxRecDepth 100000 in
set_option maxHeartbeats 4000000 in
theorem HPush (gb : Nat) (q : Option Addr) (n c : Nat) (X : List (Int × Int)) (x : Int × Int) (w w0 : World) (Γ : List Pc) (jb j : Nat) (S : Sep w0 w Γ) (hb : Γ[jb]? = some (.blk gb 58 #[.slice q n c])) (hj : Γ[j]? = some (.own 63 2 q n c (encE X))) (hne : jb ≠ j) (hn : n ≤ 100000) :
    Calls Try.prog 116 #[.pointer (some ⟨gb, 0, none⟩), plV x] w fun e w' => e = .returned (.tuple #[]) ∧ ∃ q' c', Sep w0 w' ((Γ.set j (.own 63 2 q' (n + 1) c' (encE (X ++ [x])))).set jb (.blk gb 58 #[.slice q' (n + 1) c'])) := by
  have b0 := (S.blk jb hb).cell 0
  have bz := (S.blk jb hb).lt
  have bf := (S.blk jb hb).frozen 0
  unfold plV
  have TA := taPlace x.1 x.2
  have SH := Lib.hid S; clear S
  obtain ⟨i0, hi0, hz0, hz1, hz2⟩ := info_parts infPla
  go_enter Try.func116, Try.ntmps116
  go_wp2
  obtain ⟨Y, hY⟩ : ∃ Y, Y = w.alloc (.cells #[.int .i64 x.1, .int .i64 x.2] 63) := ⟨_, rfl⟩
  have S1 := Lib.hid (hY ▸ SH.out.al #[.int .i64 x.1, .int .i64 x.2] 63 w.heap.size rfl : Sep w0 Y (.blk w.heap.size 63 #[.int .i64 x.1, .int .i64 x.2] :: Γ))
  rw [← hY]
  clear hY b0 bz bf
  have b0 := (S1.out.blk (jb + 1) hb).cell 0
  have bz := (S1.out.blk (jb + 1) hb).lt
  have e0 := (S1.out.blk 0 rfl).cell 0
  have e1 := (S1.out.blk 0 rfl).cell 1
  have ez := (S1.out.blk 0 rfl).lt
  have S4 := Lib.hid (S1.out.alrw #[.int .i64 x.1, .int .i64 x.2] 63 2 1 Y.heap.size rfl (by decide) rfl).drew
  obtain ⟨q', c', w7, hrun, S'⟩ := S4.out.appended (j + 2) 58 58 63 i0 _ 2 16 Try.underlying58 hi0 hz0 hz1 hz2 rfl (by omega) q n c (encE X) hj (some ⟨Y.heap.size, 0, none⟩) 1 1 (encE [x]) (S4.out.rdx 0 rfl) (one_encE _) (by omega) (by omega)
  have hb7 := two_set (p0 := Pc.own 63 2 (some ⟨Y.heap.size, 0, none⟩) 1 1 [.int .i64 x.1, .int .i64 x.2]) (p1 := Pc.blk w.heap.size 63 #[.int .i64 x.1, .int .i64 x.2]) (a := Pc.own 63 2 q' (n + 1) c' (encE X ++ encE [x])) (fun e => hne e.symm) hb
  have k4 := (S'.blk (jb + 2) hb7).cell 0
  have kf := (S'.blk (jb + 2) hb7).frozen 0
  have kz := (S'.blk (jb + 2) hb7).lt
  have S6 := Lib.hid S'
  have HB7 := Lib.hid hb7
  clear S' hb7 hb hj
  refine wp_region_any (by kernel_rfl) ?_
  change wpAny _ _ _ _ _ _ _ (World.drew _)
  refine wpAny_take (i := 0) (v := .pointer (some ⟨gb, 0, none⟩)) rfl (by kernel_rfl) (by kernel_rfl) (by kernel_rfl) (fun _ _ _ h => h) (Or.inl ⟨by rfl, fun W => by go_simp⟩) ?_
  refine wpAny_take (i := 1) (v := .pointer (some ⟨gb, 0, none⟩)) rfl (by kernel_rfl) (by kernel_rfl) (by kernel_rfl) (fun _ _ _ h => h) (Or.inl ⟨by rfl, fun W => by go_simp⟩) ?_
  refine wpAny_take (i := 2) (v := .pointer (some ⟨gb, 0, none⟩)) rfl (by kernel_rfl) (by kernel_rfl) (by kernel_rfl) (fun _ _ _ h => h) (Or.inl ⟨by rfl, fun W => by go_simp⟩) ?_
  refine wpAny_ready (rs := [3, 4]) (by kernel_rfl) (by simp) (AllReady.cons rfl (fun K hK => ?_) (AllReady.cons rfl (fun K hK => ?_) AllReady.nil))
  · go_simp
    refine hK _ _ ?_
    clear hK
    refine wpAny_ready (rs := [4]) (by kernel_rfl) (by simp) (AllReady.cons rfl (fun K hK => ?_) AllReady.nil)
    go_simp
    refine hK _ _ ?_
    clear hK
    refine wpAny_ready (rs := [5]) (by kernel_rfl) (by simp) (AllReady.cons rfl (fun K hK => ?_) AllReady.nil)
    go_simp
    refine hK _ _ ?_
    clear hK
    refine wpAny_ready (rs := [6]) (by kernel_rfl) (by simp) (AllReady.cons rfl (fun K hK => ?_) AllReady.nil)
    rw [if_pos (by rfl)]
    refine operwp_append (.tmp 15) (.tmp 17) 58 rfl rfl rfl hrun ?_
    refine hK _ _ ?_
    clear hK
    refine wpAny_ready (rs := [7]) (by kernel_rfl) (by simp) (AllReady.cons rfl (fun K hK => ?_) AllReady.nil)
    go_simp
    refine hK _ _ ?_
    clear hK
    refine wpAny_ready (rs := [8]) (by kernel_rfl) (by simp) (AllReady.cons rfl (fun K hK => ?_) AllReady.nil)
    go_simp
    refine hK _ _ ?_
    clear hK
    refine wpAny_done (by kernel_rfl) ?_ _
    go_end0
    refine ⟨rfl, q', c', ?_⟩
    have T := S6.out.set (jb + 2) HB7.out 0 (.slice q' (n + 1) c')
    rw [encE_append]
    exact T.sub ((List.sublist_cons_self _ _).trans (List.sublist_cons_self _ _))
  · go_simp
    refine hK _ _ ?_
    clear hK
    refine wpAny_ready (rs := [3, 5]) (by kernel_rfl) (by simp) (AllReady.cons rfl (fun K hK => ?_) (AllReady.cons rfl (fun K hK => ?_) AllReady.nil))
    · go_simp
      refine hK _ _ ?_
      clear hK
      refine wpAny_ready (rs := [5]) (by kernel_rfl) (by simp) (AllReady.cons rfl (fun K hK => ?_) AllReady.nil)
      go_simp
      refine hK _ _ ?_
      clear hK
      refine wpAny_ready (rs := [6]) (by kernel_rfl) (by simp) (AllReady.cons rfl (fun K hK => ?_) AllReady.nil)
      rw [if_pos (by rfl)]
      refine operwp_append (.tmp 15) (.tmp 17) 58 rfl rfl rfl hrun ?_
      refine hK _ _ ?_
      clear hK
      refine wpAny_ready (rs := [7]) (by kernel_rfl) (by simp) (AllReady.cons rfl (fun K hK => ?_) AllReady.nil)
      go_simp
      refine hK _ _ ?_
      clear hK
      refine wpAny_ready (rs := [8]) (by kernel_rfl) (by simp) (AllReady.cons rfl (fun K hK => ?_) AllReady.nil)
      go_simp
      refine hK _ _ ?_
      clear hK
      refine wpAny_done (by kernel_rfl) ?_ _
      go_end0
      refine ⟨rfl, q', c', ?_⟩
      have T := S6.out.set (jb + 2) HB7.out 0 (.slice q' (n + 1) c')
      rw [encE_append]
      exact T.sub ((List.sublist_cons_self _ _).trans (List.sublist_cons_self _ _))
    · go_simp
      refine hK _ _ ?_
      clear hK
      refine wpAny_ready (rs := [3]) (by kernel_rfl) (by simp) (AllReady.cons rfl (fun K hK => ?_) AllReady.nil)
      go_simp
      refine hK _ _ ?_
      clear hK
      refine wpAny_ready (rs := [6]) (by kernel_rfl) (by simp) (AllReady.cons rfl (fun K hK => ?_) AllReady.nil)
      rw [if_pos (by rfl)]
      refine operwp_append (.tmp 15) (.tmp 17) 58 rfl rfl rfl hrun ?_
      refine hK _ _ ?_
      clear hK
      refine wpAny_ready (rs := [7]) (by kernel_rfl) (by simp) (AllReady.cons rfl (fun K hK => ?_) AllReady.nil)
      go_simp
      refine hK _ _ ?_
      clear hK
      refine wpAny_ready (rs := [8]) (by kernel_rfl) (by simp) (AllReady.cons rfl (fun K hK => ?_) AllReady.nil)
      go_simp
      refine hK _ _ ?_
      clear hK
      refine wpAny_done (by kernel_rfl) ?_ _
      go_end0
      refine ⟨rfl, q', c', ?_⟩
      have T := S6.out.set (jb + 2) HB7.out 0 (.slice q' (n + 1) c')
      rw [encE_append]
      exact T.sub ((List.sublist_cons_self _ _).trans (List.sublist_cons_self _ _))
theorem Sep.cut {w0 w : World} {Γ : List Pc} (S : Sep w0 w Γ) (j : Nat) {e : TypeId} {size n c : Nat} {q : Option Addr} {xs ys : List Value} (k : Nat) (hj : Γ[j]? = some (.own e size q n c (xs ++ ys))) (hk : xs.length = k * size) (hkn : k ≤ n) : Sep w0 w (Γ.set j (.own e size q k c xs)) :=
  S.put j hj _ (row := none) (World.grownBy.refl _ _) (fun _ h => nomatch h) (own_base (own_take (S.own j hj) hk hkn) (Nat.zero_le _)) fun _ hk => .inl hk
set_option maxRecDepth 100000 in
set_option maxHeartbeats 4000000 in
theorem HPop (gb : Nat) (q : Option Addr) (n c : Nat) (X : List (Int × Int)) (w w0 : World) (Γ : List Pc) (jb j : Nat) (S : Sep w0 w Γ) (hb : Γ[jb]? = some (.blk gb 58 #[.slice q (n + 1) c])) (hj : Γ[j]? = some (.own 63 2 q (n + 1) c (encE X))) (hne : jb ≠ j) (hn : n ≤ 100000) :
    Calls Try.prog 115 #[.pointer (some ⟨gb, 0, none⟩)] w fun e w' => e = .returned (plV (nth X n)) ∧ Sep w0 w' ((Γ.set j (.own 63 2 q n c (encE (X.take n)))).set jb (.blk gb 58 #[.slice q n c])) := by
  have b0 := (S.blk jb hb).cell 0
  have bz := (S.blk jb hb).lt
  have bf := (S.blk jb hb).frozen 0
  have hl := S.rd j hj (by omega)
  have hcap := own_cap (S.own j hj)
  have g1 := hl.cE (k := n) (by omega)
  have g2 := hl.cE2 (k := n) (by omega)
  have p1 := hl.ptr
  have hnX := hl.nE
  have d1 : (0:Int) ≤ n := by omega
  have d2 : (n:Int) < (n:Int) + 1 := by omega
  have HNX := Lib.hid hnX
  clear hnX
  generalize nth X n = x at *
  unfold plV
  clear hl
  have SH := Lib.hid S; clear S
  go_enter Try.func115, Try.ntmps115
  go_wp2
  go_ret
  refine ⟨rfl, ?_⟩
  have T := (SH.out.set jb hb 0 (.slice q n c)).junk (.cells #[.int .i64 x.1, .int .i64 x.2] 63)
  have hj2 : (Γ.set jb (.blk gb 58 #[.slice q n c]))[j]? = some (.own 63 2 q (n + 1) c (encE (X.take n) ++ encE (X.drop n))) := by
    rw [← encE_append, List.take_append_drop, List.getElem?_set_ne hne]; exact hj
  have hX := HNX.out
  have T2 := Sep.cut T j n hj2 (by rw [encE_len, List.length_take]; omega) (by omega)
  rw [List.set_comm _ _ hne] at T2
  exact T2
end Go.Proofs.Ythlmcfbadhidbaa
/- Calls through heap.Interface on the program's places: which method, at which value. -/
namespace Go.Proofs.Ythlmcfbadhidbaa
open Go Go.RowKit
theorem wnc (s : String) (a : Addr) (xt : TypeId) (W : World) : (Builtin.ssaWrapNilChk_ #[xt] xt #[.pointer (some a), strVal "", strVal s]).run Try.prog W = .ok (.pointer (some a)) W := by kernel_rfl
theorem recvP (s : String) (gb : Nat) (v : Value) (W : World) (h : W.cell? ⟨gb, 0, none⟩ = some v) : (receiverAt 56 (Place.val (.pointer (some ⟨gb, 0, none⟩))) false (some s)).run Try.prog W = .ok v W := by
  simp only [receiverAt, Sem.run_bind]
  simp [go_sem, Place.get, wnc, loadVar, h]
theorem mLen (gb : Nat) (v : Value) (W : World) (N : Nat) (hN : 0 < N) (h : W.cell? ⟨gb, 0, none⟩ = some v) : (method N 56 (.pointer (some ⟨gb, 0, none⟩)) "Len").run Try.prog W = .ok (113, v) W := by
  obtain ⟨m, rfl⟩ : ∃ m, N = m + 1 := ⟨N - 1, by omega⟩
  obtain ⟨mm, h1⟩ : ∃ mm, Array.find? (fun x => x.name == "Len") (Try.t56).methods = some mm := ⟨_, rfl⟩
  have h2 : (Array.find? (fun x => x.name == "Len") (Try.t56).methods).map (fun x => (x.path, x.func)) = some (#[], some (113, false)) := by kernel_rfl
  rw [h1] at h2
  simp at h2
  simp [method, go_sem, h1, h2, follow, recvP _ gb v W h]
theorem mLess (gb : Nat) (v : Value) (W : World) (N : Nat) (hN : 0 < N) (h : W.cell? ⟨gb, 0, none⟩ = some v) : (method N 56 (.pointer (some ⟨gb, 0, none⟩)) "Less").run Try.prog W = .ok (114, v) W := by
  obtain ⟨m, rfl⟩ : ∃ m, N = m + 1 := ⟨N - 1, by omega⟩
  obtain ⟨mm, h1⟩ : ∃ mm, Array.find? (fun x => x.name == "Less") (Try.t56).methods = some mm := ⟨_, rfl⟩
  have h2 : (Array.find? (fun x => x.name == "Less") (Try.t56).methods).map (fun x => (x.path, x.func)) = some (#[], some (114, false)) := by kernel_rfl
  rw [h1] at h2
  simp at h2
  simp [method, go_sem, h1, h2, follow, recvP _ gb v W h]
theorem mSwap (gb : Nat) (v : Value) (W : World) (N : Nat) (hN : 0 < N) (h : W.cell? ⟨gb, 0, none⟩ = some v) : (method N 56 (.pointer (some ⟨gb, 0, none⟩)) "Swap").run Try.prog W = .ok (117, v) W := by
  obtain ⟨m, rfl⟩ : ∃ m, N = m + 1 := ⟨N - 1, by omega⟩
  obtain ⟨mm, h1⟩ : ∃ mm, Array.find? (fun x => x.name == "Swap") (Try.t56).methods = some mm := ⟨_, rfl⟩
  have h2 : (Array.find? (fun x => x.name == "Swap") (Try.t56).methods).map (fun x => (x.path, x.func)) = some (#[], some (117, false)) := by kernel_rfl
  rw [h1] at h2
  simp at h2
  simp [method, go_sem, h1, h2, follow, recvP _ gb v W h]
theorem mPush (gb : Nat) (W : World) (N : Nat) (hN : 0 < N) : (method N 56 (.pointer (some ⟨gb, 0, none⟩)) "Push").run Try.prog W = .ok (116, .pointer (some ⟨gb, 0, none⟩)) W := by
  obtain ⟨m, rfl⟩ : ∃ m, N = m + 1 := ⟨N - 1, by omega⟩
  kernel_rfl
theorem mPop (gb : Nat) (W : World) (N : Nat) (hN : 0 < N) : (method N 56 (.pointer (some ⟨gb, 0, none⟩)) "Pop").run Try.prog W = .ok (115, .pointer (some ⟨gb, 0, none⟩)) W := by
  obtain ⟨m, rfl⟩ : ∃ m, N = m + 1 := ⟨N - 1, by omega⟩
  kernel_rfl
end Go.Proofs.Ythlmcfbadhidbaa
/- The library's heap (container/heap) on the program's places: up, down, Push, Pop. -/
namespace Go.Proofs.Ythlmcfbadhidbaa
open Go Go.RowKit
attribute [local go_sem] Oper.semAt_some
def hV (gb : Nat) : Value := .iface 56 (.pointer (some ⟨gb, 0, none⟩))
theorem set_same {Γ : List Pc} {j : Nat} {p : Pc} (h : Γ[j]? = some p) : Γ.set j p = Γ := by
  obtain ⟨h1, h2⟩ := List.getElem?_eq_some_iff.1 h
  rw [← h2, List.set_getElem_self]
theorem swapL_comm {α : Type} [Inhabited α] (X : List α) {i k : Nat} (h : i ≠ k) : swapL X i k = swapL X k i := by
  unfold swapL
  exact List.set_comm _ _ h
set_option maxRecDepth 100000 in
set_option maxHeartbeats 4000000 in
theorem HUp (gb : Nat) (q : Option Addr) (n c i : Nat) (X : List (Int × Int)) (w w0 : World) (Γ : List Pc) (jb j : Nat) (S : Sep w0 w Γ) (hb : Γ[jb]? = some (.blk gb 58 #[.slice q n c])) (hj : Γ[j]? = some (.own 63 2 q n c (encE X))) (hne : jb ≠ j) (hn : n ≤ 100000) (hi : i < n) (hu : UpH ltW n i X) :
    Calls Try.prog 34 #[hV gb, .int .i64 i] w fun e w' => e = .returned (.tuple #[]) ∧ ∃ X' : List (Int × Int), X'.Perm X ∧ HeapN ltW n X' ∧ Sep w0 w' (Γ.set j (.own 63 2 q n c (encE X'))) := by
  unfold hV
  have hnX : n = X.length := (S.rd j hj (by omega)).nE
  have HNX := Lib.hid hnX
  clear hnX
  have SH := Lib.hid S; clear S
  have HU := Lib.hid hu; clear hu
  go_enter Try.func34, Try.ntmps34
  go_wp2
  go_loopw [1, 4] (fun v1 _ wr => ∃ (k : Nat) (Y : List (Int × Int)), k < n ∧ v1 = .int .i64 k ∧ Y.Perm X ∧ UpH ltW n k Y ∧ Sep w0 wr (Γ.set j (.own 63 2 q n c (encE Y)))) (fun v1 _ _ => (intOf v1).toNat)
  case atStart => exact ⟨i, X, hi, rfl, List.Perm.refl _, HU.out, by rw [set_same hj]; exact SH.out⟩
  case round =>
    clear SH HU
    obtain ⟨k, Y, hk, rfl, hp, hu, S⟩ := hrel
    have HP := Lib.hid hp
    have HU := Lib.hid hu
    have HYL : Hid (Y.length = n) := by unfold Hid; rw [hp.length_eq]; exact HNX.out.symm
    have hb2 := (List.getElem?_set_ne (l := Γ) (a := Pc.own 63 2 q n c (encE Y)) (i := j) (j := jb) (by omega)).trans hb
    have hj2 := pc_set (q := Pc.own 63 2 q n c (encE Y)) hj
    have HB2 := Lib.hid hb2
    have b0 := (S.blk jb hb2).cell 0
    have ML := fun N hN => mLess gb _ wr N hN b0
    by_cases h0 : k = 0
    · subst h0
      have HE := Lib.hid (up_end hu (.inl rfl))
      have SH := Lib.hid S; clear S
      clear hp hu hb2 hj2
      go_wp2
      go_end0
      exact ⟨rfl, Y, HP.out, HE.out, SH.out⟩
    · obtain ⟨p, hpp⟩ : ∃ p, (k - 1) / 2 = p := ⟨_, rfl⟩
      have hpk : p < k := by omega
      have e1 : ((k:Int) - 1).tdiv 2 = (p:Int) := by
        rw [Int.tdiv_eq_ediv_of_nonneg (by omega)]; omega
      have e2 : ((p:Int) == (k:Int)) = false := by simp; omega
      have hL := HLess q n c Y k p wr (S.rd j hj2 (by omega)) hk (by omega)
      cases hlt : ltW (nth Y k) (nth Y p) with
      | false =>
        rw [hlt] at hL
        have HE := Lib.hid (up_end hu (.inr (by rw [hpp]; exact hlt)))
        have HL := Lib.hid hL
        have SH := Lib.hid S; clear S
        clear hp hu hb2 hj2 hL hlt hpp h0
        go_wp2_with (go_at_call 114; go_must (refine HL.out.mono ?_; rintro e w5 ⟨rfl, h5⟩; have S5 := Lib.hid (SH.out.call h5); have b5 := (S5.out.blk jb HB2.out).cell 0; have MS := fun N hN => mSwap gb _ w5 N hN b5; clear h5))
        go_end0
        exact ⟨rfl, Y, HP.out, HE.out, S5.out⟩
      | true =>
        rw [hlt] at hL
        have HE := Lib.hid (hpp ▸ up_step stoW (by rw [HYL.out]; exact Nat.le_refl _) hk (by omega) hu (by rw [hpp]; exact hlt) : UpH ltW n p (swapL Y k p))
        have HJ2 := Lib.hid hj2
        have HPM := Lib.hid (swapL_perm (X := Y) (i := k) (j := p) (by rw [HYL.out]; exact hk) (by rw [HYL.out]; omega))
        have HL := Lib.hid hL
        have SH := Lib.hid S; clear S
        clear hp hu hb2 hj2 hL hlt hpp h0
        have hkp : p ≠ k := by omega
        go_wp2_with (first
          | (go_at_call 117; go_must (refine (HSwap q n c Y p k w5 w0 _ j S5.out HJ2.out (by omega) hk (by omega)).mono ?_; rintro e w6 ⟨rfl, T⟩; rw [List.set_set, swapL_comm Y hkp] at T; have S6 := Lib.hid T; clear T))
          | (go_at_call 114; go_must (refine HL.out.mono ?_; rintro e w5 ⟨rfl, h5⟩; have S5 := Lib.hid (SH.out.call h5); have b5 := (S5.out.blk jb HB2.out).cell 0; have MS := fun N hN => mSwap gb _ w5 N hN b5; clear h5)))
        go_roundw
        case rel => exact ⟨p, swapL Y k p, by omega, rfl, HPM.out.trans HP.out, HE.out, S6.out⟩
        case measure => simp [intOf]; omega
end Go.Proofs.Ythlmcfbadhidbaa
/- The library's heap (container/heap) on the program's places: down. -/
namespace Go.Proofs.Ythlmcfbadhidbaa
open Go Go.RowKit
attribute [local go_sem] Oper.semAt_some
set_option maxRecDepth 100000 in
set_option maxHeartbeats 8000000 in
theorem HDown (gb : Nat) (q : Option Addr) (n m c : Nat) (X : List (Int × Int)) (w w0 : World) (Γ : List Pc) (jb j : Nat) (S : Sep w0 w Γ) (hb : Γ[jb]? = some (.blk gb 58 #[.slice q m c])) (hj : Γ[j]? = some (.own 63 2 q m c (encE X))) (hne : jb ≠ j) (hm : m ≤ 100000) (hnm : n ≤ m) (hu : DnH ltW n 0 X) :
    Calls Try.prog 35 #[hV gb, .int .i64 0, .int .i64 n] w fun e w' => ∃ bb, e = .returned (.bool bb) ∧ ∃ X' : List (Int × Int), X'.Perm X ∧ HeapN ltW n X' ∧ (∀ z, n ≤ z → z < m → nth X' z = nth X z) ∧ Sep w0 w' (Γ.set j (.own 63 2 q m c (encE X'))) := by
  unfold hV
  have hnX : m = X.length := (S.rd j hj (by omega)).nE
  have HNX := Lib.hid hnX
  clear hnX
  have SH := Lib.hid S; clear S
  have HU := Lib.hid hu; clear hu
  go_enter Try.func35, Try.ntmps35
  go_wp2
  go_loopw [7, 8, 9, 10] (fun v7 _ _ _ wr => ∃ (k : Nat) (Y : List (Int × Int)), k ≤ n ∧ v7 = .int .i64 k ∧ Y.Perm X ∧ DnH ltW n k Y ∧ (∀ z, n ≤ z → z < m → nth Y z = nth X z) ∧ Sep w0 wr (Γ.set j (.own 63 2 q m c (encE Y)))) (fun v7 _ _ _ _ => n - (intOf v7).toNat)
  case atStart => exact ⟨0, X, Nat.zero_le _, rfl, List.Perm.refl _, HU.out, fun _ _ _ => rfl, by rw [set_same hj]; exact SH.out⟩
  case round =>
    clear SH HU
    obtain ⟨k, Y, hk, rfl, hp, hu, ht, S⟩ := hrel
    have HP := Lib.hid hp
    have HU := Lib.hid hu
    have HT := Lib.hid ht
    have HYL : Hid (Y.length = m) := by unfold Hid; rw [hp.length_eq]; exact HNX.out.symm
    have HB2 := Lib.hid ((List.getElem?_set_ne (l := Γ) (a := Pc.own 63 2 q m c (encE Y)) (i := j) (j := jb) (by omega)).trans hb)
    have HJ2 := Lib.hid (pc_set (q := Pc.own 63 2 q m c (encE Y)) hj)
    have b0 := (S.blk jb HB2.out).cell 0
    have ML := fun N hN => mLess gb _ wr N hN b0
    obtain ⟨a, ha⟩ : ∃ a, 2 * k + 1 = a := ⟨_, rfl⟩
    have e1 : 2 * (k:Int) + 1 = (a:Int) := by omega
    have e2 : decide ((a:Int) < 0) = false := by simp
    clear hp hu ht
    by_cases hA : n ≤ a
    · have d1 : decide ((n:Int) ≤ a) = true := by simp; omega
      have HE := Lib.hid (dn_leaf HU.out (by omega))
      have SH := Lib.hid S; clear S
      have d1n : decide (n ≤ a) = true := by simpa using hA
      clear ha
      go_wp2
      go_ret
      exact ⟨_, rfl, Y, HP.out, HE.out, HT.out, SH.out⟩
    · have d1 : decide ((n:Int) ≤ a) = false := by simp; omega
      obtain ⟨b, hb'⟩ : ∃ b, 2 * k + 2 = b := ⟨_, rfl⟩
      have e3 : (a:Int) + 1 = (b:Int) := by omega
      by_cases hB : b < n
      · have d2 : decide ((b:Int) < n) = true := by simp; omega
        have hL1 := HLess q m c Y b a wr (S.rd j HJ2.out (by omega)) (by omega) (by omega)
        cases hl1 : ltW (nth Y b) (nth Y a) with
        | false =>
          rw [hl1] at hL1
          have HL1 := Lib.hid hL1
          obtain ⟨d, hd⟩ : ∃ d, d = a := ⟨_, rfl⟩
          have HLC := Lib.hid (least_one stoW (n := n) (j := k) (X := Y) (by omega) (.inr (by rw [ha, hb']; exact hl1)))
          rw [ha] at HLC
          have SH := Lib.hid S; clear S
          obtain rfl := hd
          clear hl1 hL1
          cases hlt : ltW (nth Y d) (nth Y k) with
          | false =>
            have HE := Lib.hid (dn_end stoW HU.out HLC.out hlt)
            have HL2 : Hid (∀ W, Ext wr W → Calls Try.prog 114 #[.slice q m c, .int .i64 d, .int .i64 k] W fun e w' => e = .returned (.bool false) ∧ Ext W w') := fun W h => hlt ▸ HLess q m c Y d k W ((SH.out.rd j HJ2.out (by omega)).ext h) (by omega) (by omega)
            clear hlt
            go_wp2_with (first | (go_at_call 114; have _t := S5; go_must (refine (HL2.out _ X5.out).mono ?_; rintro e w6 ⟨rfl, h6⟩; have S6 := Lib.hid (S5.out.call h6); have b6 := (S6.out.blk jb HB2.out).cell 0; have MS := fun N hN => mSwap gb _ w6 N hN b6; clear h6)) | (go_at_call 114; have _t := HL1; go_must (refine HL1.out.mono ?_; rintro e w5 ⟨rfl, h5⟩; have S5 := Lib.hid (SH.out.call h5); have X5 := Lib.hid h5; have b5 := (S5.out.blk jb HB2.out).cell 0; have ML5 := fun N hN => mLess gb _ w5 N hN b5; clear h5)))
            go_ret
            exact ⟨_, rfl, Y, HP.out, HE.out, HT.out, S6.out⟩
          | true =>
            have HE := Lib.hid (dn_step stoW (by rw [HYL.out]; exact hnm) HU.out HLC.out hlt)
            have HL2 : Hid (∀ W, Ext wr W → Calls Try.prog 114 #[.slice q m c, .int .i64 d, .int .i64 k] W fun e w' => e = .returned (.bool true) ∧ Ext W w') := fun W h => hlt ▸ HLess q m c Y d k W ((SH.out.rd j HJ2.out (by omega)).ext h) (by omega) (by omega)
            have HPM := Lib.hid (swapL_perm (X := Y) (i := k) (j := d) (by rw [HYL.out]; omega) (by rw [HYL.out]; omega))
            have HT2 : Hid (∀ z, n ≤ z → z < m → nth (swapL Y k d) z = nth X z) := fun z h1 h2 => by rw [swapL_nth (by rw [HYL.out]; exact h2), if_neg (by omega), if_neg (by omega)]; exact HT.out z h1 h2
            clear hlt
            go_wp2_with (first | (go_at_call 117; go_must (refine (HSwap q m c Y k d w6 w0 _ j S6.out HJ2.out (by omega) (by omega) (by omega)).mono ?_; rintro e w7 ⟨rfl, T⟩; rw [List.set_set] at T; have S7 := Lib.hid T; clear T)) | (go_at_call 114; have _t := S5; go_must (refine (HL2.out _ X5.out).mono ?_; rintro e w6 ⟨rfl, h6⟩; have S6 := Lib.hid (S5.out.call h6); have b6 := (S6.out.blk jb HB2.out).cell 0; have MS := fun N hN => mSwap gb _ w6 N hN b6; clear h6)) | (go_at_call 114; have _t := HL1; go_must (refine HL1.out.mono ?_; rintro e w5 ⟨rfl, h5⟩; have S5 := Lib.hid (SH.out.call h5); have X5 := Lib.hid h5; have b5 := (S5.out.blk jb HB2.out).cell 0; have ML5 := fun N hN => mLess gb _ w5 N hN b5; clear h5)))
            go_roundw
            case rel => exact ⟨d, swapL Y k d, by omega, rfl, HPM.out.trans HP.out, HE.out, HT2.out, S7.out⟩
            case measure => simp [intOf]; omega
        | true =>
          rw [hl1] at hL1
          have HL1 := Lib.hid hL1
          have HLC := Lib.hid (least_two stoW (n := n) (j := k) (X := Y) (by omega) (by rw [ha, hb']; exact hl1))
          rw [hb'] at HLC
          obtain ⟨d, hd⟩ : ∃ d, d = b := ⟨_, rfl⟩
          have SH := Lib.hid S; clear S
          obtain rfl := hd
          clear hl1 hL1
          cases hlt : ltW (nth Y d) (nth Y k) with
          | false =>
            have HE := Lib.hid (dn_end stoW HU.out HLC.out hlt)
            have HL2 : Hid (∀ W, Ext wr W → Calls Try.prog 114 #[.slice q m c, .int .i64 d, .int .i64 k] W fun e w' => e = .returned (.bool false) ∧ Ext W w') := fun W h => hlt ▸ HLess q m c Y d k W ((SH.out.rd j HJ2.out (by omega)).ext h) (by omega) (by omega)
            clear hlt
            go_wp2_with (first | (go_at_call 114; have _t := S5; go_must (refine (HL2.out _ X5.out).mono ?_; rintro e w6 ⟨rfl, h6⟩; have S6 := Lib.hid (S5.out.call h6); have b6 := (S6.out.blk jb HB2.out).cell 0; have MS := fun N hN => mSwap gb _ w6 N hN b6; clear h6)) | (go_at_call 114; have _t := HL1; go_must (refine HL1.out.mono ?_; rintro e w5 ⟨rfl, h5⟩; have S5 := Lib.hid (SH.out.call h5); have X5 := Lib.hid h5; have b5 := (S5.out.blk jb HB2.out).cell 0; have ML5 := fun N hN => mLess gb _ w5 N hN b5; clear h5)))
            go_ret
            exact ⟨_, rfl, Y, HP.out, HE.out, HT.out, S6.out⟩
          | true =>
            have HE := Lib.hid (dn_step stoW (by rw [HYL.out]; exact hnm) HU.out HLC.out hlt)
            have HL2 : Hid (∀ W, Ext wr W → Calls Try.prog 114 #[.slice q m c, .int .i64 d, .int .i64 k] W fun e w' => e = .returned (.bool true) ∧ Ext W w') := fun W h => hlt ▸ HLess q m c Y d k W ((SH.out.rd j HJ2.out (by omega)).ext h) (by omega) (by omega)
            have HPM := Lib.hid (swapL_perm (X := Y) (i := k) (j := d) (by rw [HYL.out]; omega) (by rw [HYL.out]; omega))
            have HT2 : Hid (∀ z, n ≤ z → z < m → nth (swapL Y k d) z = nth X z) := fun z h1 h2 => by rw [swapL_nth (by rw [HYL.out]; exact h2), if_neg (by omega), if_neg (by omega)]; exact HT.out z h1 h2
            clear hlt
            go_wp2_with (first | (go_at_call 117; go_must (refine (HSwap q m c Y k d w6 w0 _ j S6.out HJ2.out (by omega) (by omega) (by omega)).mono ?_; rintro e w7 ⟨rfl, T⟩; rw [List.set_set] at T; have S7 := Lib.hid T; clear T)) | (go_at_call 114; have _t := S5; go_must (refine (HL2.out _ X5.out).mono ?_; rintro e w6 ⟨rfl, h6⟩; have S6 := Lib.hid (S5.out.call h6); have b6 := (S6.out.blk jb HB2.out).cell 0; have MS := fun N hN => mSwap gb _ w6 N hN b6; clear h6)) | (go_at_call 114; have _t := HL1; go_must (refine HL1.out.mono ?_; rintro e w5 ⟨rfl, h5⟩; have S5 := Lib.hid (SH.out.call h5); have X5 := Lib.hid h5; have b5 := (S5.out.blk jb HB2.out).cell 0; have ML5 := fun N hN => mLess gb _ w5 N hN b5; clear h5)))
            go_roundw
            case rel => exact ⟨d, swapL Y k d, by omega, rfl, HPM.out.trans HP.out, HE.out, HT2.out, S7.out⟩
            case measure => simp [intOf]; omega
      · have d2 : decide ((b:Int) < n) = false := by simp; omega
        have HLC := Lib.hid (least_one stoW (n := n) (j := k) (X := Y) (by omega) (.inl (by omega)))
        rw [ha] at HLC
        obtain ⟨d, hd⟩ : ∃ d, d = a := ⟨_, rfl⟩
        have SH := Lib.hid S; clear S
        have S5 := Lib.hid SH.out
        have X5 : Hid (Ext wr wr) := Below.refl _ _
        obtain rfl := hd
        cases hlt : ltW (nth Y d) (nth Y k) with
        | false =>
          have HE := Lib.hid (dn_end stoW HU.out HLC.out hlt)
          have HL2 : Hid (∀ W, Ext wr W → Calls Try.prog 114 #[.slice q m c, .int .i64 d, .int .i64 k] W fun e w' => e = .returned (.bool false) ∧ Ext W w') := fun W h => hlt ▸ HLess q m c Y d k W ((SH.out.rd j HJ2.out (by omega)).ext h) (by omega) (by omega)
          clear hlt
          go_wp2_with (first | (go_at_call 114; have _t := S5; go_must (refine (HL2.out _ X5.out).mono ?_; rintro e w6 ⟨rfl, h6⟩; have S6 := Lib.hid (S5.out.call h6); have b6 := (S6.out.blk jb HB2.out).cell 0; have MS := fun N hN => mSwap gb _ w6 N hN b6; clear h6)) | (go_at_call 114; have _t := HL1; go_must (refine HL1.out.mono ?_; rintro e w5 ⟨rfl, h5⟩; have S5 := Lib.hid (SH.out.call h5); have X5 := Lib.hid h5; have b5 := (S5.out.blk jb HB2.out).cell 0; have ML5 := fun N hN => mLess gb _ w5 N hN b5; clear h5)))
          go_ret
          exact ⟨_, rfl, Y, HP.out, HE.out, HT.out, S6.out⟩
        | true =>
          have HE := Lib.hid (dn_step stoW (by rw [HYL.out]; exact hnm) HU.out HLC.out hlt)
          have HL2 : Hid (∀ W, Ext wr W → Calls Try.prog 114 #[.slice q m c, .int .i64 d, .int .i64 k] W fun e w' => e = .returned (.bool true) ∧ Ext W w') := fun W h => hlt ▸ HLess q m c Y d k W ((SH.out.rd j HJ2.out (by omega)).ext h) (by omega) (by omega)
          have HPM := Lib.hid (swapL_perm (X := Y) (i := k) (j := d) (by rw [HYL.out]; omega) (by rw [HYL.out]; omega))
          have HT2 : Hid (∀ z, n ≤ z → z < m → nth (swapL Y k d) z = nth X z) := fun z h1 h2 => by rw [swapL_nth (by rw [HYL.out]; exact h2), if_neg (by omega), if_neg (by omega)]; exact HT.out z h1 h2
          clear hlt
          go_wp2_with (first | (go_at_call 117; go_must (refine (HSwap q m c Y k d w6 w0 _ j S6.out HJ2.out (by omega) (by omega) (by omega)).mono ?_; rintro e w7 ⟨rfl, T⟩; rw [List.set_set] at T; have S7 := Lib.hid T; clear T)) | (go_at_call 114; have _t := S5; go_must (refine (HL2.out _ X5.out).mono ?_; rintro e w6 ⟨rfl, h6⟩; have S6 := Lib.hid (S5.out.call h6); have b6 := (S6.out.blk jb HB2.out).cell 0; have MS := fun N hN => mSwap gb _ w6 N hN b6; clear h6)) | (go_at_call 114; have _t := HL1; go_must (refine HL1.out.mono ?_; rintro e w5 ⟨rfl, h5⟩; have S5 := Lib.hid (SH.out.call h5); have X5 := Lib.hid h5; have b5 := (S5.out.blk jb HB2.out).cell 0; have ML5 := fun N hN => mLess gb _ w5 N hN b5; clear h5)))
          go_roundw
          case rel => exact ⟨d, swapL Y k d, by omega, rfl, HPM.out.trans HP.out, HE.out, HT2.out, S7.out⟩
          case measure => simp [intOf]; omega
end Go.Proofs.Ythlmcfbadhidbaa
/- The library's heap (container/heap) on the program's places: Push, Pop. -/
namespace Go.Proofs.Ythlmcfbadhidbaa
open Go Go.RowKit
attribute [local go_sem] Oper.semAt_some
theorem set_two {Γ : List Pc} {j jb : Nat} (h : j ≠ jb) (a a' b : Pc) : ((Γ.set j a).set jb b).set j a' = (Γ.set j a').set jb b := by
  rw [List.set_comm _ _ h, List.set_set, List.set_comm _ _ (fun e => h e.symm)]
theorem heap_snoc {n : Nat} {X : List (Int × Int)} {x : Int × Int} (hn : n = X.length) (h : HeapN ltW n X) : UpH ltW (n + 1) n (X ++ [x]) := by
  refine up_start fun i h0 h1 => ?_
  rw [nth_append_left _ _ _ (by omega), nth_append_left _ _ _ (by omega)]
  exact h i h0 h1
set_option maxRecDepth 100000 in
set_option maxHeartbeats 4000000 in
theorem HeapPush (gb : Nat) (q : Option Addr) (n c : Nat) (X : List (Int × Int)) (x : Int × Int) (w w0 : World) (Γ : List Pc) (jb j : Nat) (S : Sep w0 w Γ) (hb : Γ[jb]? = some (.blk gb 58 #[.slice q n c])) (hj : Γ[j]? = some (.own 63 2 q n c (encE X))) (hne : jb ≠ j) (hn : n ≤ 90000) (hh : HeapN ltW n X) :
    Calls Try.prog 23 #[hV gb, plV x] w fun e w' => e = .returned (.tuple #[]) ∧ ∃ (q' : Option Addr) (c' : Nat) (X' : List (Int × Int)), X'.Perm (X ++ [x]) ∧ HeapN ltW (n + 1) X' ∧ Sep w0 w' ((Γ.set j (.own 63 2 q' (n + 1) c' (encE X'))).set jb (.blk gb 58 #[.slice q' (n + 1) c'])) := by
  have HU := Lib.hid (heap_snoc (x := x) (S.rd j hj (by omega)).nE hh)
  have HPU := Lib.hid (HPush gb q n c X x w w0 Γ jb j S hb hj hne (by omega))
  have MP := fun W N hN => mPush gb W N hN
  have HUP := Lib.hid (fun q1 c1 w1 S1 => HUp gb q1 (n + 1) c1 n (X ++ [x]) w1 w0 ((Γ.set j (.own 63 2 q1 (n + 1) c1 (encE (X ++ [x])))).set jb (.blk gb 58 #[.slice q1 (n + 1) c1])) jb j S1 (pc_set (p := .blk gb 58 #[.slice q n c]) (by rw [List.getElem?_set_ne (fun e => hne e.symm)]; exact hb)) (by rw [List.getElem?_set_ne hne]; exact pc_set hj) hne (by omega) (by omega) HU.out)
  have HB := Lib.hid (fun q1 c1 => (pc_set (p := .blk gb 58 #[.slice q n c]) (q := .blk gb 58 #[.slice q1 (n + 1) c1]) (by rw [List.getElem?_set_ne (fun e => hne e.symm)]; exact hb) : ((Γ.set j (.own 63 2 q1 (n + 1) c1 (encE (X ++ [x])))).set jb (.blk gb 58 #[.slice q1 (n + 1) c1]))[jb]? = some _))
  clear S hb hj hh
  unfold hV plV
  go_enter Try.func23, Try.ntmps23
  go_wp2_with (first
    | (go_at_call 34; go_must (refine (HUP.out q1 c1 w1 S1.out).mono ?_; rintro e w2 ⟨rfl, X', k1, k2, k3⟩; rw [set_two (fun e => hne e.symm)] at k3; have K1 := Lib.hid k1; have K2 := Lib.hid k2; have S2 := Lib.hid k3; clear k1 k2 k3))
    | (go_at_call 113; go_must (refine (HLen _ _ _ _ (by omega)).mono ?_; rintro e wl ⟨rfl, hw⟩; have hw := hw.symm; subst hw))
    | (go_at_call 116; go_must (refine HPU.out.mono ?_; rintro e w1 ⟨rfl, q1, c1, T⟩; have b1 := (T.blk jb (HB.out q1 c1)).cell 0; have ML := fun N hN => mLen gb _ w1 N hN b1; have S1 := Lib.hid T; clear T)))
  go_end0
  exact ⟨rfl, q1, c1, X', K1.out, K2.out, S2.out⟩
set_option maxRecDepth 100000 in
set_option maxHeartbeats 4000000 in
theorem HeapPop (gb : Nat) (q : Option Addr) (n c : Nat) (X : List (Int × Int)) (w w0 : World) (Γ : List Pc) (jb j : Nat) (S : Sep w0 w Γ) (hb : Γ[jb]? = some (.blk gb 58 #[.slice q (n + 1) c])) (hj : Γ[j]? = some (.own 63 2 q (n + 1) c (encE X))) (hne : jb ≠ j) (hn : n ≤ 90000) (hh : HeapN ltW (n + 1) X) :
    Calls Try.prog 24 #[hV gb] w fun e w' => e = .returned (plV (nth X 0)) ∧ ∃ X' : List (Int × Int), (nth X 0 :: X').Perm X ∧ HeapN ltW n X' ∧ Sep w0 w' ((Γ.set j (.own 63 2 q n c (encE X'))).set jb (.blk gb 58 #[.slice q n c])) := by
  have hnX := (S.rd j hj (by omega)).nE
  have HNX := Lib.hid hnX
  have b0 := (S.blk jb hb).cell 0
  have ML := fun N hN => mLen gb _ w N hN b0
  have MS := fun N hN => mSwap gb _ w N hN b0
  have MP := fun W N hN => mPop gb W N hN
  have HSW := Lib.hid (HSwap q (n + 1) c X 0 n w w0 Γ j S hj (by omega) (by omega) (by omega))
  have HDN := Lib.hid (fun w1 S1 => HDown gb q n (n + 1) c (swapL X 0 n) w1 w0 (Γ.set j (.own 63 2 q (n + 1) c (encE (swapL X 0 n)))) jb j S1 (by rw [List.getElem?_set_ne (fun e => hne e.symm)]; exact hb) (pc_set hj) hne (by omega) (by omega) (dn_start hnX.symm hh))
  have HPO := Lib.hid (fun w2 Y S2 => HPop gb q n c Y w2 w0 (Γ.set j (.own 63 2 q (n + 1) c (encE Y))) jb j S2 (by rw [List.getElem?_set_ne (fun e => hne e.symm)]; exact hb) (pc_set hj) hne (by omega))
  have HN0 : Hid (nth (swapL X 0 n) n = nth X 0) := by unfold Hid; rw [swapL_nth (by omega), if_pos rfl]
  have HPM := Lib.hid (swapL_perm (X := X) (i := 0) (j := n) (by omega) (by omega))
  clear S hb hj hh hnX
  unfold hV
  go_enter Try.func24, Try.ntmps24
  go_wp2_with (first
    | (go_at_call 115; go_must (refine (HPO.out w2 X' S2.out).mono ?_; rintro e w3 ⟨rfl, T⟩; rw [List.set_set] at T; have S3 := Lib.hid T; clear T))
    | (go_at_call 35; go_must (refine (HDN.out w1 S1.out).mono ?_; rintro e w2 ⟨bb, rfl, X', k1, k2, k3, k4⟩; rw [List.set_set] at k4; have K1 := Lib.hid k1; have K2 := Lib.hid k2; have K3 := Lib.hid (k3 n (Nat.le_refl _) (by omega)); have S2 := Lib.hid k4; clear k1 k2 k3 k4))
    | (go_at_call 117; go_must (refine HSW.out.mono ?_; rintro e w1 ⟨rfl, T⟩; have S1 := Lib.hid T; clear T))
    | (go_at_call 113; go_must (refine (HLen _ _ _ _ (by omega)).mono ?_; rintro e wl ⟨rfl, hw⟩; have hw := hw.symm; subst hw)))
  go_ret
  have e0 : nth X' n = nth X 0 := K3.out.trans HN0.out
  refine ⟨by rw [e0]; rfl, X'.take n, ?_, heap_take K2.out ?_, S3.out⟩
  · exact pop_perm HNX.out.symm (K1.out.trans HPM.out) e0
  · rw [K1.out.length_eq, HPM.out.length_eq, ← HNX.out]; omega
end Go.Proofs.Ythlmcfbadhidbaa
/- The program's order of places (chapter 11): By. -/
namespace Go.Proofs.Ythlmcfbadhidbaa
open Go Go.RowKit
attribute [local go_sem] Oper.semAt_some
theorem rd_one (w : World) (y : Int × Int) : Rd ((w.alloc (.cells #[.int .i64 y.1, .int .i64 y.2] 63)).alloc (.cells #[.int .i64 y.1] 3)) 1 (some ⟨w.heap.size + 1, 0, none⟩) 1 (encI [y.1]) := by
  have h := Rd.oneI (w.alloc (.cells #[.int .i64 y.1, .int .i64 y.2] 63)) 3 y.1
  have e : (w.alloc (.cells #[.int .i64 y.1, .int .i64 y.2] 63)).heap.size = w.heap.size + 1 := by simp
  rw [e] at h; exact h
def lenV : Value → Nat
  | .slice _ n _ => n
  | _ => 0
theorem ways_bd {O T R V : List Int} (hck : checkR O T R V = true) {n v : Nat} (hno : O.length = n + 1) (hv : v < n) :
    R.length = n + 1 ∧ (0 ≤ nth O v ∧ nth O v ≤ nth O (v + 1) ∧ nth O (v + 1) ≤ 2000) ∧ (0 ≤ nth R v ∧ nth R v ≤ nth R (v + 1) ∧ nth R (v + 1) ≤ 2000) := by
  obtain ⟨e1, e2, e3, e4⟩ := checkR_half hck
  have a := offOk_of (halfB_off e3)
  have b := offOk_of (halfB_off e4)
  have r1 := offB_parts (halfB_off e3)
  have r2 := offB_parts (halfB_off e4)
  have hR : R.length = n + 1 := by omega
  have := a.lo v (by omega)
  have := a.le v (by omega)
  have := a.hi (v + 1) (by omega)
  have := b.lo v (by omega)
  have := b.le v (by omega)
  have := b.hi (v + 1) (by omega)
  exact ⟨hR, ⟨by omega, by omega, by omega⟩, by omega, by omega, by omega⟩
theorem way_rng {O T R V : List Int} (hck : checkR O T R V = true) {n v : Nat} (hno : O.length = n + 1) (hv : v < n) : 0 ≤ wayN O R v ∧ wayN O R v ≤ 4000 := by
  have := ways_bd hck hno hv
  unfold wayN; omega
set_option maxRecDepth 100000 in
set_option maxHeartbeats 8000000 in
theorem ByG_yes (po : Option Addr) (no co : Nat) (O : List Int) (pt : Option Addr) (nt ct : Nat) (T : List Int) (pr : Option Addr) (nr cr : Nat) (R : List Int) (pv : Option Addr) (nv cv : Nat) (V : List Int) (n : Nat) (w : World) (hO : Rd w 1 po no (encI O)) (hT : Rd w 1 pt nt (encI T)) (hR : Rd w 1 pr nr (encI R)) (hV : Rd w 1 pv nv (encI V)) (hct : nt ≤ ct) (hcv : nv ≤ cv) (hck : checkR O T R V = true) (hno : O.length = n + 1) :
    Calls Try.prog 14 #[.agg #[.slice po no co, .slice pt nt ct, .slice pr nr cr, .slice pv nv cv]] w fun e w' => ∃ q c, e = .returned (.tuple #[.slice q (byL O R n).length c, .int .i64 0]) ∧ Sep w w' [.own 3 1 q (byL O R n).length c (encI (byL O R n))] := by
  obtain ⟨i0, hi0, hz0, hz1, hz2⟩ := info_parts infI
  have HC := Lib.hid (fun W1 (h : Ext w W1) => CheckR po no co O pt nt ct T pr nr cr R pv nv cv V W1 (hO.ext h) (hT.ext h) (hR.ext h) (hV.ext h) hct hcv)
  rw [hck] at HC
  have S0 := Lib.hid ((Sep.start w).al #[.slice po no co, .slice pt nt ct, .slice pr nr cr, .slice pv nv cv] 34 w.heap.size rfl)
  have l1 := hO.nI
  have l2 := hR.nI
  have pA := hO.ptr
  have pB := hR.ptr
  have r := offB_parts (halfB_off (checkR_half hck).2.2.1)
  have hn : n ≤ 200 := by omega
  have HNO : Hid (no = n + 1) := by unfold Hid; omega
  have HW := Lib.hid (fun v (hv : v < n) => ways_bd hck hno hv)
  have HNR : Hid (∀ v, v < n → nr = n + 1) := fun v hv => by have := (ways_bd hck hno hv).1; omega
  have HRNG := Lib.hid (fun v (hv : v < n) => way_rng hck hno hv)
  have hno1 : 1 ≤ no := by omega
  have hno2 : no ≤ 201 := by omega
  have HO := Lib.hid hO; clear hO
  have HR := Lib.hid hR; clear hR
  clear hT hV hct hcv hck l1 l2 r hno
  go_enter Try.func14, Try.ntmps14
  go_wp2_with (go_at_call 13; go_must (refine (HC.out _ S0.out.ext).mono ?_; rintro e w1 ⟨rfl, hb⟩; have S1 := Lib.hid (S0.out.call hb); have xz := (S1.out.blk 0 rfl).lt; have x0 := (S1.out.blk 0 rfl).cell 0; have x1 := (S1.out.blk 0 rfl).cell 1; have x2 := (S1.out.blk 0 rfl).cell 2; have x3 := (S1.out.blk 0 rfl).cell 3; clear hb))
  have S2 := Lib.hid (((S1.out.alrw #[] 63 2 0 w1.heap.size rfl (by decide) rfl).al #[.slice (some ⟨w1.heap.size, 0, none⟩) 0 0] 58 (w1.heap.size + 1) (by simp)).pick [1, 0, 2] (by decide) rfl)
  generalize (w1.alloc (.cells #[] 63)).alloc (.cells #[.slice (some ⟨w1.heap.size, 0, none⟩) 0 0] 58) = w2 at *
  generalize hq0 : (some ⟨w1.heap.size, 0, none⟩ : Option Addr) = q0 at *
  generalize hgb : w1.heap.size + 1 = gb at *
  clear hq0 hgb
  go_loopw [5, 19] (fun _ i wr => ∃ (k : Nat) (q : Option Addr) (c : Nat) (X : List (Int × Int)), k ≤ n ∧ i = .int .i64 k ∧ X.Perm (waysP O R k) ∧ HeapN ltW k X ∧ Sep w wr [.own 63 2 q k c (encE X), .blk gb 58 #[.slice q k c], .blk w.heap.size 34 #[.slice po no co, .slice pt nt ct, .slice pr nr cr, .slice pv nv cv]]) (fun _ i _ => n - (intOf i).toNat)
  case atStart => exact ⟨0, q0, 0, [], Nat.zero_le _, rfl, List.Perm.refl _, fun i h0 h1 => by omega, S2.out⟩
  case round =>
    clear S0 S1 S2 HC x0 x1 x2 x3 xz
    obtain ⟨k, q, c, X, hk, rfl, hp, hh, S⟩ := hrel
    have az := (S.blk 2 rfl).lt; have a0 := (S.blk 2 rfl).cell 0; have a1 := (S.blk 2 rfl).cell 1; have a2 := (S.blk 2 rfl).cell 2; have a3 := (S.blk 2 rfl).cell 3
    by_cases hlt : k < n
    · have d1 : decide ((k:Int) < (no:Int) - 1) = true := by have := HNO.out; simp; omega
      obtain ⟨_, hb1, hb2⟩ := HW.out k hlt
      have hnr := HNR.out k hlt
      have g1 := S.ext.cell (HO.out.cI (k := k) (by have := HNO.out; omega))
      have g2 := S.ext.cell (HO.out.cI (k := k + 1) (by have := HNO.out; omega))
      have g3 := S.ext.cell (HR.out.cI (k := k) (by omega))
      have g4 := S.ext.cell (HR.out.cI (k := k + 1) (by omega))
      have e1 : (0:Int) ≤ k := by omega
      have e2 : (k:Int) < no := by have := HNO.out; omega
      have e3 : (0:Int) ≤ (k:Int) + 1 := by omega
      have e4 : (k:Int) + 1 < no := by have := HNO.out; omega
      have e5 : (k:Int) < nr := by omega
      have e6 : (k:Int) + 1 < nr := by omega
      have HX := Lib.hid (waysP_step O R k)
      unfold wayN at HX
      generalize nth O k = o0 at *
      generalize nth O (k + 1) = o1 at *
      generalize nth R k = r0 at *
      generalize nth R (k + 1) = r1 at *
      have HPU := Lib.hid (fun W (T : Sep w W [.own 63 2 q k c (encE X), .blk gb 58 #[.slice q k c], .blk w.heap.size 34 #[.slice po no co, .slice pt nt ct, .slice pr nr cr, .slice pv nv cv]]) => HeapPush gb q k c X ((k:Int), o1 - o0 + r1 - r0) W w _ 1 0 T rfl rfl (by decide) (by omega) hh)
      unfold hV plV at HPU
      have HP := Lib.hid hp
      have hn200 : k < 200 := by omega
      clear hp hh hnr
      have SH := Lib.hid S; clear S
      go_wp2
      have u0 := fun x : ExtOf wr => x.ext.cell a0
      have u1 := fun x : ExtOf wr => x.ext.cell a1
      have u2 := fun x : ExtOf wr => x.ext.cell a2
      have u3 := fun x : ExtOf wr => x.ext.cell a3
      have v1 := fun x : ExtOf wr => x.ext.cell g1
      have v2 := fun x : ExtOf wr => x.ext.cell g2
      have v3 := fun x : ExtOf wr => x.ext.cell g3
      have v4 := fun x : ExtOf wr => x.ext.cell g4
      refine wp_region_mix [true, true, true, true, true, true, true, true, true, true, true, true, true, true, true, true, true, true, true, true, true, true, true, true, true, true, true, true, true] (fun _ _ _ => True) (by kernel_rfl) (by kernel_rfl) (by kernel_rfl) (fun _ _ _ _ _ _ => trivial) ?_
      simp only [nfM]
      repeat (go_big_quiet_step ((fail)))
      refine wpQuiet_nil ⟨trivial, fun vs W1 hE hkn => ?_⟩
      clear hkn
      have S4 := Lib.hid (SH.out.call hE)
      clear u0 u1 u2 u3 v1 v2 v3 v4 a0 a1 a2 a3 az g1 g2 g3 g4
      simp only [putM, List.length_cons, List.length_nil, Nat.zero_add, Nat.reduceAdd, List.drop_succ_cons, List.drop_zero]
      try simp [Act.put]
      go_wp2_with (go_at_call 23; go_must (refine (HPU.out _ S4.out).mono ?_; rintro e w5 ⟨rfl, q', c', X', k1, k2, T⟩; have K1 := Lib.hid k1; have K2 := Lib.hid k2; have S5 := Lib.hid T; clear k1 k2 T))
      go_roundw
      case rel => exact ⟨k + 1, q', c', X', by omega, by go_num, by rw [HX.out]; exact K1.out.trans (HP.out.append_right _), K2.out, S5.out⟩
      case measure => simp [intOf]; omega
    · obtain rfl : k = n := by omega
      have d1 : decide ((k:Int) < (no:Int) - 1) = false := by have := HNO.out; simp; omega
      have HND := Lib.hid (waysP_nodup O R k)
      have HP := Lib.hid hp
      have HH := Lib.hid hh
      have TA := fun (x : Int × Int) W => taPlace x.1 x.2 W
      have SH := Lib.hid S; clear S
      clear hp hh a0 a1 a2 a3 az pA pB
      go_wp2
      go_loopw [6, 7, 8] (fun v6 _ _ wr => ∃ (out : List (Int × Int)) (ql : Option Addr) (cl m : Nat) (q2 : Option Addr) (c2 : Nat) (Y : List (Int × Int)), v6 = .slice ql out.length cl ∧ (out ++ Y).Perm (waysP O R k) ∧ Rises ltW out ∧ (∀ a ∈ out, ∀ b ∈ Y, ltW b a = false) ∧ HeapN ltW m Y ∧ Sep w wr [.own 3 1 ql out.length cl (encI (out.map (·.1))), .own 63 2 q2 m c2 (encE Y), .blk gb 58 #[.slice q2 m c2]]) (fun v6 _ _ _ => k - lenV v6)
      case atStart => exact ⟨[], none, 0, k, q, c, X, rfl, HP.out, List.Pairwise.nil, fun _ h => (nomatch h), HH.out, (SH.out.nilrow 3 1).pick [0, 1, 2] (by decide) rfl⟩
      case round =>
        clear SH HP HH
        obtain ⟨out, ql, cl, m, q2, c2, Y, rfl, hp, hr, hle, hh, S⟩ := hrel
        have hmY := (S.rdx 1 rfl).nE
        have hlen : out.length + m = k := by have := hp.length_eq; rw [List.length_append, waysP_len] at this; omega
        have b0 := (S.blk 2 rfl).cell 0
        have ML := fun N hN => mLen gb _ wr N hN b0
        by_cases hm : m = 0
        · subst hm
          have hY : Y = [] := List.eq_nil_of_length_eq_zero hmY.symm
          subst hY
          rw [List.append_nil] at hp
          have hb := by_uniq (fun v hv => HRNG.out v hv) hr hp
          have HB : Hid (out.map (·.1) = byL O R k) := by unfold Hid byL; rw [hb]
          have HOL : Hid (out.length = (byL O R k).length) := by unfold Hid byL; rw [hb, List.length_map]
          clear hp hr hle hh hb hlen hmY
          have SJ := Lib.hid S; clear S
          go_wp2_with (go_at_call 113; go_must (refine (HLen _ _ _ _ (by omega)).mono ?_; rintro e wl ⟨rfl, hw⟩; have hw := hw.symm; subst hw))
          go_ret2
          exact ⟨ql, cl, by rw [← HOL.out]; rfl, by rw [← HOL.out, ← HB.out]; exact SJ.out.pick [0] (by decide) rfl⟩
        · obtain ⟨m', rfl⟩ : ∃ m', m = m' + 1 := ⟨m - 1, by omega⟩
          have d2 : decide ((0:Int) < (m':Int) + 1) = true := by simp; try omega
          have hmin := heap_min stoW hh
          have HPO := Lib.hid (fun W (T : Sep w W [.own 3 1 ql out.length cl (encI (out.map (·.1))), .own 63 2 q2 (m' + 1) c2 (encE Y), .blk gb 58 #[.slice q2 (m' + 1) c2]]) => HeapPop gb q2 m' c2 Y W w _ 2 1 T rfl rfl (by decide) (by omega) hh)
          unfold hV plV at HPO
          have HRS : Hid (∀ Y', (nth Y 0 :: Y').Perm Y → ((out ++ [nth Y 0]) ++ Y').Perm (waysP O R k) ∧ Rises ltW (out ++ [nth Y 0]) ∧ ∀ a ∈ out ++ [nth Y 0], ∀ b ∈ Y', ltW b a = false) := fun Y' h => pops_rise stoW hp HND.out hr hle h fun b hb => by
            obtain ⟨i, hi, e⟩ := List.getElem_of_mem hb
            rw [← e, ← nth_eq hi]; exact hmin i (by omega)
          generalize nth Y 0 = y at *
          clear hp hr hle hh hmin hmY hm
          have SJ := Lib.hid S; clear S
          go_wp2_with (first
            | (at_builtin; go_must (refine wpList_append_sep rfl _ _ _ rfl 3 i0 _ 1 8 Try.underlying23 hi0 hz0 hz1 hz2 rfl (by omega) ((S5.out.junk _).junk _) 0 ql out.length cl _ rfl rfl _ 1 1 _ rfl HR1.out (one_encI _) (by omega) (by omega) ?_; intro q6 c6 w6 S' hsz; have S6 := Lib.hid S'; clear S' hsz))
            | (go_at_call 24; go_must (refine (HPO.out _ SJ.out).mono ?_; rintro e w5 ⟨rfl, Y', k1, k2, T⟩; have K1 := Lib.hid k1; have K2 := Lib.hid k2; have S5 := Lib.hid T; have HR1 := Lib.hid (rd_one w5 y); clear k1 k2 T))
            | (go_at_call 113; go_must (refine (HLen _ _ _ _ (by omega)).mono ?_; rintro e wl ⟨rfl, hw⟩; have hw := hw.symm; subst hw)))
          go_roundw
          case rel =>
            obtain ⟨r1, r2, r3⟩ := HRS.out Y' K1.out
            exact ⟨out ++ [y], q6, c6, m', q2, c2, Y', by rw [List.length_append]; rfl, r1, r2, r3, K2.out, by rw [List.length_append, List.map_append, encI_append]; exact S6.out⟩
          case measure => simp [lenV]; omega
def byC (ck : Bool) : Int := if ck = true then 0 else 40
def byR (ck : Bool) (O R : List Int) : List Int := if ck = true then byL O R (O.length - 1) else []
/-- whatever is asked -/
theorem ByG (po : Option Addr) (no co : Nat) (O : List Int) (pt : Option Addr) (nt ct : Nat) (T : List Int) (pr : Option Addr) (nr cr : Nat) (R : List Int) (pv : Option Addr) (nv cv : Nat) (V : List Int) (w : World) (hO : Rd w 1 po no (encI O)) (hT : Rd w 1 pt nt (encI T)) (hR : Rd w 1 pr nr (encI R)) (hV : Rd w 1 pv nv (encI V)) (hct : nt ≤ ct) (hcv : nv ≤ cv) : Calls Try.prog 14 #[.agg #[.slice po no co, .slice pt nt ct, .slice pr nr cr, .slice pv nv cv]] w fun e w' => ∃ q c, e = .returned (.tuple #[.slice q (byR (checkR O T R V) O R).length c, .int .i64 (byC (checkR O T R V))]) ∧ Sep w w' [.own 3 1 q (byR (checkR O T R V) O R).length c (encI (byR (checkR O T R V) O R))] := by
  cases hck : checkR O T R V with
  | true =>
    have r := offB_parts (halfB_off (checkR_half hck).2.2.1)
    have e : byR true O R = byL O R (O.length - 1) := rfl
    rw [e]
    exact ByG_yes po no co O pt nt ct T pr nr cr R pv nv cv V (O.length - 1) w hO hT hR hV hct hcv hck (by omega)
  | false =>
    have HC := Lib.hid (fun W1 (h : Ext w W1) => CheckR po no co O pt nt ct T pr nr cr R pv nv cv V W1 (hO.ext h) (hT.ext h) (hR.ext h) (hV.ext h) hct hcv)
    rw [hck] at HC
    have S0 := Lib.hid ((Sep.start w).al #[.slice po no co, .slice pt nt ct, .slice pr nr cr, .slice pv nv cv] 34 w.heap.size rfl)
    clear hO hT hR hV hct hcv hck
    go_enter Try.func14, Try.ntmps14
    go_wp2_with (go_at_call 13; go_must (refine (HC.out _ S0.out.ext).mono ?_; rintro e w1 ⟨rfl, hb⟩; have S1 := Lib.hid (S0.out.call hb); have xz := (S1.out.blk 0 rfl).lt; have x0 := (S1.out.blk 0 rfl).cell 0; have x1 := (S1.out.blk 0 rfl).cell 1; have x2 := (S1.out.blk 0 rfl).cell 2; have x3 := (S1.out.blk 0 rfl).cell 3; clear hb))
    go_ret2
    exact ⟨none, 0, rfl, ((Sep.start w).call S1.out.ext).nilrow _ _⟩
end Go.Proofs.Ythlmcfbadhidbaa
/- Orders of places and their numbers (chapter 11), in plain Lean. -/
namespace Go.Proofs.Ythlmcfbadhidbaa
open Go Go.RowKit
/-- numbers that are an order of n places -/
def OrdP (l : List Int) (n : Nat) : Prop := l.length = n ∧ l.Nodup ∧ ∀ x ∈ l, 0 ≤ x ∧ x < n
def ordB (l : List Int) : Bool := decide (l.Nodup) && l.all fun x => decide (0 ≤ x) && decide (x < l.length)
theorem ordB_iff {l : List Int} : ordB l = true ↔ OrdP l l.length := by
  unfold ordB OrdP
  rw [Bool.and_eq_true, decide_eq_true_eq, List.all_eq_true]
  constructor
  · rintro ⟨h1, h2⟩
    refine ⟨rfl, h1, fun x hx => ?_⟩
    have := h2 x hx
    rwa [Bool.and_eq_true, decide_eq_true_eq, decide_eq_true_eq] at this
  · rintro ⟨_, h1, h2⟩
    refine ⟨h1, fun x hx => ?_⟩
    rw [Bool.and_eq_true, decide_eq_true_eq, decide_eq_true_eq]; exact h2 x hx
/-- an order holds every place -/
theorem ord_mem {l : List Int} {n : Nat} (h : OrdP l n) {v : Nat} (hv : v < n) : (v : Int) ∈ l := by
  apply Classical.byContradiction; intro hm
  have := nodup_small (l := (v : Int) :: l) (n := n) (List.nodup_cons.2 ⟨hm, h.2.1⟩) fun x hx => by
    rcases List.mem_cons.1 hx with rfl | hx
    · omega
    · exact h.2.2 x hx
  rw [List.length_cons, h.1] at this; omega
/-- as the document counts: each place once -/
theorem ord_count {l : List Int} : ordB l = true ↔ ∀ v : Nat, v < l.length → l.count (v : Int) = 1 := by
  rw [ordB_iff]
  constructor
  · intro h v hv
    rw [h.2.1.count, if_pos (ord_mem h hv)]
  · intro h
    have hp : ∀ x ∈ l, decide (0 ≤ x ∧ x < (l.length : Int)) = true := by
      rw [← List.length_filter_eq_length_iff]
      refine Nat.le_antisymm (List.length_filter_le _ _) ?_
      have h2 : ((List.range l.length).map fun v : Nat => (v : Int)).Nodup :=
        List.Pairwise.map _ (fun a b (hab : a ≠ b) (e : (a : Int) = b) => hab (by omega)) List.nodup_range
      have := h2.length_le_of_subset (l₂ := l.filter fun x => decide (0 ≤ x ∧ x < (l.length : Int))) fun x hx => by
        obtain ⟨v, hv, rfl⟩ := List.mem_map.1 hx
        have hv' := List.mem_range.1 hv
        rw [List.mem_filter, decide_eq_true_eq]
        refine ⟨?_, by omega, by omega⟩
        have := h v hv'
        exact List.count_pos_iff.1 (by omega)
      simpa using this
    refine ⟨rfl, ?_, fun x hx => by simpa using hp x hx⟩
    rw [List.nodup_iff_count]
    intro x
    by_cases hx : x ∈ l
    · have h1 := hp x hx
      rw [decide_eq_true_eq] at h1
      have := h x.toNat (by omega)
      rw [Int.toNat_of_nonneg h1.1] at this
      omega
    · rw [List.count_eq_zero_of_not_mem hx]; omega
/-- where each place stands -/
def posL (l : List Int) (k : Nat) (X : List Int) : List Int := (List.range k).foldl (fun X i => X.set (nth l i).toNat (i : Int)) X
def placesL (l : List Int) : List Int := posL l l.length (List.replicate l.length 0)
theorem posL_step (l : List Int) (k : Nat) (X : List Int) : posL l (k + 1) X = (posL l k X).set (nth l k).toNat (k : Int) := by
  unfold posL; rw [List.range_succ, List.foldl_append]; rfl
theorem posL_len (l : List Int) (k : Nat) (X : List Int) : (posL l k X).length = X.length := by
  induction k with
  | zero => rfl
  | succ k ih => rw [posL_step, List.length_set, ih]
/-- how many orders of m places there are -/
def fac : Nat → Nat
  | 0 => 1
  | m + 1 => (m + 1) * fac m
theorem fac_pos : ∀ m, 0 < fac m
  | 0 => Nat.one_pos
  | m + 1 => Nat.mul_pos (Nat.succ_pos m) (fac_pos m)
/-- the order of a number, of places that are left -/
def nthA : Nat → List Int → Nat → List Int
  | 0, _, _ => []
  | m + 1, left, k => nth left (k / fac m) :: nthA m (left.eraseIdx (k / fac m)) (k % fac m)
/-- the number of an order -/
def turnA : List Int → Nat
  | [] => 0
  | x :: l => (l.countP fun w => decide (w < x)) * fac l.length + turnA l
theorem nthA_len : ∀ (m : Nat) (left : List Int) (k : Nat), (nthA m left k).length = m
  | 0, _, _ => rfl
  | m + 1, left, k => by rw [nthA, List.length_cons, nthA_len]
theorem dig_lt {m k : Nat} (h : k < fac (m + 1)) : k / fac m < m + 1 := Nat.div_lt_of_lt_mul (by rw [Nat.mul_comm]; exact h)
theorem mem_erase {left : List Int} {d : Nat} (hd : d < left.length) {x : Int} : x ∈ left ↔ x = nth left d ∨ x ∈ left.eraseIdx d := by
  rw [List.mem_eraseIdx_iff_getElem]
  constructor
  · intro h
    obtain ⟨i, hi, e⟩ := List.getElem_of_mem h
    by_cases hid : i = d
    · subst hid; left; rw [nth_eq hd]; exact e.symm
    · right; exact ⟨i, hi, hid, e⟩
  · rintro (rfl | ⟨i, hi, _, rfl⟩)
    · exact nth_mem hd
    · exact List.getElem_mem hi
theorem nthA_mem : ∀ {m : Nat} {left : List Int} {k : Nat}, left.length = m → k < fac m → ∀ x, x ∈ nthA m left k ↔ x ∈ left
  | 0, left, k, hl, _, x => by rw [List.eq_nil_of_length_eq_zero hl]; rfl
  | m + 1, left, k, hl, hk, x => by
    have hd := dig_lt hk
    rw [nthA, List.mem_cons, nthA_mem (by rw [List.length_eraseIdx_of_lt (by omega)]; omega) (Nat.mod_lt _ (fac_pos m))]
    exact (mem_erase (by omega)).symm
theorem rises_erase {left : List Int} (h : left.Pairwise (· < ·)) {d : Nat} : (left.eraseIdx d).Pairwise (· < ·) := h.eraseIdx d
theorem erase_less {left : List Int} (h : left.Pairwise (· < ·)) {d : Nat} (hd : d < left.length) : ((left.eraseIdx d).countP fun w => decide (w < nth left d)) = d := by
  have e : left.eraseIdx d = left.take d ++ left.drop (d + 1) := List.eraseIdx_eq_take_drop_succ left d
  have hp := List.pairwise_iff_getElem.1 h
  rw [e, List.countP_append, List.countP_eq_length.2, List.countP_eq_zero.2]
  · rw [List.length_take]; omega
  · intro x hx
    obtain ⟨i, hi, rfl⟩ := List.getElem_of_mem hx
    rw [List.length_drop] at hi
    rw [List.getElem_drop, nth_eq hd]
    have := hp d (d + 1 + i) hd (by omega) (by omega)
    simp; omega
  · intro x hx
    obtain ⟨i, hi, rfl⟩ := List.getElem_of_mem hx
    rw [List.length_take] at hi
    rw [List.getElem_take, nth_eq hd]
    have := hp i d (by omega) hd (by omega)
    simpa using this
/-- the same numbers, as many of them less -/
theorem count_same {l m : List Int} (hl : l.Nodup) (hm : m.Nodup) (h : ∀ x, x ∈ l ↔ x ∈ m) (p : Int → Bool) : l.countP p = m.countP p := by
  rw [List.countP_eq_length_filter, List.countP_eq_length_filter]
  refine Nat.le_antisymm (List.Nodup.length_le_of_subset (hl.filter p) fun x hx => ?_) (List.Nodup.length_le_of_subset (hm.filter p) fun x hx => ?_)
  · rw [List.mem_filter] at *; exact ⟨(h x).1 hx.1, hx.2⟩
  · rw [List.mem_filter] at *; exact ⟨(h x).2 hx.1, hx.2⟩
theorem rises_nodup {l : List Int} (h : l.Pairwise (· < ·)) : l.Nodup := h.imp fun {a b} hab e => by omega
theorem nthA_nodup : ∀ {m : Nat} {left : List Int} {k : Nat}, left.length = m → left.Nodup → k < fac m → (nthA m left k).Nodup
  | 0, _, _, _, _, _ => List.nodup_nil
  | m + 1, left, k, hl, hn, hk => by
    have hd := dig_lt hk
    have hle : (left.eraseIdx (k / fac m)).length = m := by rw [List.length_eraseIdx_of_lt (by omega)]; omega
    have hmod : k % fac m < fac m := Nat.mod_lt _ (fac_pos m)
    rw [nthA, List.nodup_cons]
    refine ⟨fun h => ?_, nthA_nodup hle (hn.sublist (List.eraseIdx_sublist _ _)) hmod⟩
    rw [nthA_mem hle hmod, List.mem_eraseIdx_iff_getElem] at h
    obtain ⟨i, hi, hne, e⟩ := h
    rw [nth_eq (by omega)] at e
    exact hne ((List.getElem_inj hn).1 e)
/-- the number of the order of a number -/
theorem turn_nth : ∀ {m : Nat} {left : List Int} {k : Nat}, left.length = m → left.Pairwise (· < ·) → k < fac m → turnA (nthA m left k) = k
  | 0, _, k, _, _, hk => by show 0 = k; unfold fac at hk; omega
  | m + 1, left, k, hl, hr, hk => by
    have hd := dig_lt hk
    have hle : (left.eraseIdx (k / fac m)).length = m := by rw [List.length_eraseIdx_of_lt (by omega)]; omega
    have hmod : k % fac m < fac m := Nat.mod_lt _ (fac_pos m)
    have hre := rises_erase hr (d := k / fac m)
    rw [nthA, turnA, nthA_len, turn_nth hle hre hmod, count_same (nthA_nodup hle (rises_nodup hre) hmod) (rises_nodup hre) (nthA_mem hle hmod), erase_less hr (by omega)]
    rw [Nat.mul_comm]; exact Nat.div_add_mod k (fac m)
/-- the order of the greater number is greater: at the first place where they part -/
theorem nth_less : ∀ {m : Nat} {left : List Int} {k k' : Nat}, left.length = m → left.Pairwise (· < ·) → k < k' → k' < fac m →
    ∃ i, i < m ∧ (∀ j, j < i → nth (nthA m left k) j = nth (nthA m left k') j) ∧ nth (nthA m left k) i < nth (nthA m left k') i
  | 0, _, k, k', _, _, h1, h2 => by unfold fac at h2; omega
  | m + 1, left, k, k', hl, hr, h1, h2 => by
    have hd := dig_lt h2
    have hle : ∀ d, d < m + 1 → (left.eraseIdx d).length = m := fun d hd => by rw [List.length_eraseIdx_of_lt (by omega)]; omega
    have hdd : k / fac m ≤ k' / fac m := Nat.div_le_div_right (by omega)
    by_cases e : k / fac m = k' / fac m
    · have h3 : k % fac m < k' % fac m := by
        have a := Nat.div_add_mod k (fac m)
        have b := Nat.div_add_mod k' (fac m)
        rw [e] at a; omega
      obtain ⟨i, hi, h4, h5⟩ := nth_less (hle (k' / fac m) hd) (rises_erase hr) h3 (Nat.mod_lt _ (fac_pos m))
      refine ⟨i + 1, by omega, fun j hj => ?_, ?_⟩
      · cases j with
        | zero => rw [nthA, nthA, e]; rfl
        | succ j => rw [nthA, nthA, e]; exact h4 j (by omega)
      · rw [nthA, nthA, e]; exact h5
    · refine ⟨0, by omega, fun j hj => by omega, ?_⟩
      rw [nthA, nthA]
      show nth left (k / fac m) < nth left (k' / fac m)
      rw [nth_eq (by omega), nth_eq (by omega)]
      exact List.pairwise_iff_getElem.1 hr _ _ (by omega) (by omega) (by omega)
def rangeI (n : Nat) : List Int := (List.range n).map fun v : Nat => (v : Int)
theorem rangeI_len (n : Nat) : (rangeI n).length = n := by simp [rangeI]
theorem rangeI_rises (n : Nat) : (rangeI n).Pairwise (· < ·) :=
  List.Pairwise.map _ (fun a b (hab : a < b) => by show (a : Int) < b; omega) List.pairwise_lt_range
theorem rangeI_nth {n v : Nat} (hv : v < n) : nth (rangeI n) v = v := by
  rw [nth_eq (by rw [rangeI_len]; exact hv)]; simp [rangeI]
theorem rangeI_mem {n : Nat} {x : Int} : x ∈ rangeI n ↔ 0 ≤ x ∧ x < n := by
  unfold rangeI
  rw [List.mem_map]
  constructor
  · rintro ⟨v, hv, rfl⟩; have := List.mem_range.1 hv; omega
  · rintro ⟨h1, h2⟩; exact ⟨x.toNat, List.mem_range.2 (by omega), by omega⟩
theorem rangeI_step (n : Nat) : rangeI (n + 1) = rangeI n ++ [(n : Int)] := by unfold rangeI; rw [List.range_succ, List.map_append]; rfl
/-- the order of the number k of n places -/
def nthI (n k : Nat) : List Int := nthA n (rangeI n) k
theorem nthI_ord {n k : Nat} (h : k < fac n) : OrdP (nthI n k) n :=
  ⟨nthA_len _ _ _, nthA_nodup (rangeI_len n) (rises_nodup (rangeI_rises n)) h, fun x hx => rangeI_mem.1 ((nthA_mem (rangeI_len n) h x).1 hx)⟩
theorem nthI_turn {n k : Nat} (h : k < fac n) : turnA (nthI n k) = k := turn_nth (rangeI_len n) (rangeI_rises n) h
theorem nthI_less {n k k' : Nat} (h1 : k < k') (h2 : k' < fac n) : ∃ i, i < n ∧ (∀ j, j < i → nth (nthI n k) j = nth (nthI n k') j) ∧ nth (nthI n k) i < nth (nthI n k') i := nth_less (rangeI_len n) (rangeI_rises n) h1 h2
/-- the digit that the program tells -/
theorem dig_eq (k m : Nat) : k / fac m % (m + 1) = k % fac (m + 1) / fac m := by
  rw [fac, Nat.mul_comm (m + 1), Nat.mod_mul_right_div_self]
theorem mod_fac (k m : Nat) : k % fac (m + 1) % fac m = k % fac m := Nat.mod_mod_of_dvd k ⟨m + 1, by rw [fac, Nat.mul_comm]⟩
/-- one more place is told -/
theorem nthA_step {m : Nat} {left l : List Int} {k : Nat} : l ++ nthA (m + 1) left (k % fac (m + 1)) = (l ++ [nth left (k / fac m % (m + 1))]) ++ nthA m (left.eraseIdx (k / fac m % (m + 1))) (k % fac m) := by
  rw [nthA, dig_eq, mod_fac, List.append_assoc]; rfl
theorem turn_lt : ∀ l : List Int, turnA l < fac l.length
  | [] => Nat.one_pos
  | x :: l => by
    have h1 := turn_lt l
    have h2 : (l.countP fun w => decide (w < x)) ≤ l.length := List.countP_le_length
    have h3 := Nat.mul_le_mul_right (fac l.length) h2
    rw [turnA, List.length_cons, fac, Nat.succ_mul]
    omega
/-- how many behind the i-th are less -/
def lessN (l : List Int) (i : Nat) : Nat := (l.drop (i + 1)).countP fun w => decide (w < nth l i)
theorem turn_drop {l : List Int} {i : Nat} (h : i < l.length) : turnA (l.drop i) = lessN l i * fac (l.length - 1 - i) + turnA (l.drop (i + 1)) := by
  rw [List.drop_eq_getElem_cons h, turnA]
  unfold lessN
  rw [nth_eq h, List.length_drop]
  congr 3
  omega
theorem turn_horn {l : List Int} {i k : Nat} (h : i < l.length) (hk : k * fac (l.length - i) + turnA (l.drop i) = turnA l) : (k * (l.length - i) + lessN l i) * fac (l.length - (i + 1)) + turnA (l.drop (i + 1)) = turnA l := by
  rw [← hk, turn_drop h]
  obtain ⟨m, hm⟩ : ∃ m, l.length - i = m + 1 := ⟨l.length - i - 1, by omega⟩
  have e1 : l.length - (i + 1) = m := by omega
  have e2 : l.length - 1 - i = m := by omega
  rw [hm, e1, e2, fac, Nat.add_mul, Nat.mul_assoc, Nat.add_assoc]
theorem lessN_le (l : List Int) (i : Nat) : lessN l i ≤ l.length - (i + 1) := by
  unfold lessN
  have := List.countP_le_length (p := fun w : Int => decide (w < nth l i)) (l := l.drop (i + 1))
  rwa [List.length_drop] at this
/-- the first order rises -/
theorem nthA_0 : ∀ {m : Nat} {left : List Int}, left.length = m → nthA m left 0 = left
  | 0, left, h => (List.eq_nil_of_length_eq_zero h).symm
  | m + 1, left, h => by
    obtain ⟨a, l, rfl⟩ : ∃ a l, left = a :: l := by cases left with | nil => cases h | cons a l => exact ⟨a, l, rfl⟩
    rw [nthA, Nat.zero_div, Nat.zero_mod]
    show a :: nthA m l 0 = a :: l
    rw [nthA_0 (by simpa using h)]
/-- the last one falls -/
theorem nthA_last : ∀ {m : Nat} {left : List Int}, left.length = m → nthA m left (fac m - 1) = left.reverse
  | 0, left, h => by rw [List.eq_nil_of_length_eq_zero h]; rfl
  | m + 1, left, h => by
    have hp := fac_pos m
    have e : fac (m + 1) - 1 = fac m * m + (fac m - 1) := by rw [fac, Nat.succ_mul, Nat.mul_comm]; omega
    have e1 : (fac (m + 1) - 1) / fac m = m := by rw [e, Nat.mul_add_div hp, Nat.div_eq_of_lt (by omega)]; omega
    have e2 : (fac (m + 1) - 1) % fac m = fac m - 1 := by rw [e, Nat.mul_add_mod, Nat.mod_eq_of_lt (by omega)]
    have e3 : left = left.take m ++ [nth left m] := by
      have h1 := List.take_append_drop m left
      rw [List.drop_eq_getElem_cons (by omega), List.drop_of_length_le (by omega), ← nth_eq (by omega)] at h1
      exact h1.symm
    have e4 : left.eraseIdx m = left.take m := by
      rw [List.eraseIdx_eq_take_drop_succ, List.drop_of_length_le (by omega), List.append_nil]
    rw [nthA, e1, e2, e4, nthA_last (by rw [List.length_take]; omega)]
    conv => rhs; rw [e3]
    rw [List.reverse_append]; rfl
theorem turn_falls : ∀ {l : List Int}, l.Pairwise (fun a b => b < a) → turnA l = fac l.length - 1
  | [], _ => rfl
  | x :: l, h => by
    have h1 := List.pairwise_cons.1 h
    have hp := fac_pos l.length
    rw [turnA, turn_falls h1.2, List.countP_eq_length.2 fun w hw => by simpa using h1.1 w hw, List.length_cons, fac, Nat.succ_mul]
    omega
theorem back_falls (n : Nat) : (rangeI n).reverse.Pairwise (fun a b => b < a) := List.pairwise_reverse.2 (rangeI_rises n)
/-- the last order of n places -/
theorem nthI_last (n : Nat) : nthI n (fac n - 1) = (rangeI n).reverse := nthA_last (rangeI_len n)
theorem nthI_0 (n : Nat) : nthI n 0 = rangeI n := nthA_0 (rangeI_len n)
theorem turn_back (n : Nat) : turnA (rangeI n).reverse = fac n - 1 := by rw [turn_falls (back_falls n), List.length_reverse, rangeI_len]
theorem fac_12 : fac 12 = 479001600 := by decide +kernel
theorem fac_mono {m n : Nat} (h : m ≤ n) : fac m ≤ fac n := by
  induction h with
  | refl => exact Nat.le_refl _
  | step _ ih => rw [fac]; exact Nat.le_trans ih (Nat.le_mul_of_pos_left _ (Nat.succ_pos _))
end Go.Proofs.Ythlmcfbadhidbaa
/- The program's orders (chapter 11): Is, Places. -/
namespace Go.Proofs.Ythlmcfbadhidbaa
open Go Go.RowKit
theorem infBl : ((Try.prog).info? 4).map (fun i => (i.zero, i.size, i.bytes)) = some (some (.bool false), 1, 1) := by kernel_rfl
theorem madeBl (n : Nat) : (madeCells (Value.bool false).cells (n * 1)).toList = List.replicate n (.bool false) := by
  apply List.ext_getElem
  · simp [madeCells]
  · intro i h1 h2
    simp [madeCells, Value.cells, Nat.mod_one]
theorem madeIn (n : Nat) : (madeCells (Value.int .i64 0).cells (n * 1)).toList = encI (List.replicate n 0) := by
  apply List.ext_getElem
  · simp [madeCells, encI]
  · intro i h1 h2
    simp [madeCells, Value.cells, Nat.mod_one, encI]
theorem ord_out {l : List Int} {x : Int} (h : x ∈ l) (hx : x < 0 ∨ (l.length : Int) ≤ x) : ordB l = false := by
  cases hb : ordB l with
  | false => rfl
  | true => have := (ordB_iff.1 hb).2.2 x h; omega
theorem ord_dup {l : List Int} {k : Nat} (hk : k < l.length) (h : nth l k ∈ l.take k) : ordB l = false := by
  cases hb : ordB l with
  | false => rfl
  | true =>
    have hn := (ordB_iff.1 hb).2.1
    have e : l = l.take k ++ l.drop k := (List.take_append_drop k l).symm
    rw [e, List.nodup_append] at hn
    rw [nth_eq hk] at h
    exact absurd rfl (hn.2.2 _ h l[k] (by rw [List.drop_eq_getElem_cons hk]; exact List.mem_cons_self ..))
/-- what is known of the places of the first k -/
def OkT (l : List Int) (k m : Nat) : Prop := (l.take k).Nodup ∧ ∀ x ∈ l.take k, 0 ≤ x ∧ x < m
theorem okT_end {l : List Int} {m : Nat} (hm : m = l.length) (h : OkT l m m) : ordB l = true := by
  subst hm
  unfold OkT at h
  rw [List.take_length] at h
  exact ordB_iff.2 ⟨rfl, h.1, h.2⟩
theorem okT_step {l : List Int} {k m : Nat} (hk : k < l.length) (h : OkT l k m) (h1 : 0 ≤ nth l k ∧ nth l k < m) (h2 : nth l k ∉ l.take k) : OkT l (k + 1) m := by
  unfold OkT
  rw [take_succ_nth l k hk]
  refine ⟨?_, fun x hx => ?_⟩
  · rw [List.nodup_append]
    refine ⟨h.1, by simp, fun a ha b hb e => ?_⟩
    rw [List.mem_singleton] at hb; subst hb; subst e; exact h2 ha
  · rcases List.mem_append.1 hx with hx | hx
    · exact h.2 x hx
    · rw [List.mem_singleton] at hx; subst hx; exact h1
def thL (l : List Int) (k m : Nat) : List Value := (List.range m).map fun v : Nat => .bool (decide ((v : Int) ∈ l.take k))
theorem thL_0 (l : List Int) (m : Nat) : thL l 0 m = List.replicate m (.bool false) := by
  apply List.ext_getElem
  · simp [thL]
  · intro j h1 h2; simp [thL]
theorem thL_at {l : List Int} {k m b : Nat} (hb : b < m) : (thL l k m)[b]? = some (.bool (decide ((b : Int) ∈ l.take k))) := by simp [thL, hb]
theorem thL_set {l : List Int} {k m b : Nat} (hk : k < l.length) (hb : nth l k = b) : (thL l k m).set b (.bool true) = thL l (k + 1) m := by
  apply List.ext_getElem
  · simp [thL]
  · intro v h1 h2
    rw [List.getElem_set]
    simp only [thL, List.getElem_map, List.getElem_range]
    rw [take_succ_nth l k hk, hb]
    by_cases h : b = v
    · subst h; rw [if_pos rfl]; simp
    · rw [if_neg h]
      have : ((v : Int) ∈ l.take k ++ [(b : Int)]) ↔ (v : Int) ∈ l.take k := by
        rw [List.mem_append, List.mem_singleton]
        constructor
        · rintro (h3 | h3)
          · exact h3
          · omega
        · exact .inl
      simp only [this]
def isN (l : List Int) (n : Int) : Bool := decide ((l.length : Int) = n) && ordB l
set_option maxRecDepth 100000 in
set_option maxHeartbeats 4000000 in
theorem OrdIsG (p : Option Addr) (m c : Nat) (l : List Int) (n : Int) (w : World) (hl : Rd w 1 p m (encI l)) (hm : m ≤ 1000) :
    Calls Try.prog 10 #[.slice p m c, .int .i64 n] w fun e w' => e = .returned (.bool (isN l n)) ∧ Ext w w' := by
  obtain ⟨j0, hj0, hy0, hy1, hy2⟩ := info_parts infBl
  have L1 := Lib.hid hl.nI
  have p1 := hl.ptr
  unfold isN
  by_cases hn : (m:Int) = n
  · have hn2 : (l.length : Int) = n := by rw [← L1.out]; exact hn
    rw [decide_eq_true hn2, Bool.true_and]
    subst hn
    have c1 : ((m:Int) != (m:Int)) = false := by simp
    have HL := Lib.hid hl; clear hl
    clear hn2
    go_enter Try.func10, Try.ntmps10
    go_wp2_with (at_make; go_must (refine wpList_make_sep rfl _ _ _ rfl 4 j0 _ 1 Try.underlying50 hj0 hy0 hy1 (m:Int) m rfl rfl rfl (by rw [hy2]; omega) (by unfold maxLen; omega) (Sep.start w) ?_; intro w1 S'; rw [madeBl, ← thL_0 l m] at S'; have S1 := Lib.hid S'; clear S'))
    generalize (some ⟨w.heap.size, 0, none⟩ : Option Addr) = qs at *
    go_loopw [7, 16] (fun _ i wr => ∃ k : Nat, k ≤ m ∧ i = .int .i64 k ∧ Hid (OkT l k m) ∧ Sep w wr [.own 4 1 qs m m (thL l k m)]) (fun _ i _ => m - (intOf i).toNat)
    case atStart => exact ⟨0, Nat.zero_le _, rfl, ⟨by simp, by simp⟩, S1.out⟩
    case round =>
      clear S1
      obtain ⟨k, hk, rfl, ok, S⟩ := hrel
      by_cases hlt : k < m
      · have g1 := S.ext.cell (HL.out.cI hlt)
        have hkL : k < l.length := by rw [← L1.out]; exact hlt
        have d1 : (0:Int) ≤ k := by omega
        have d2 : (k:Int) < m := by omega
        have hmem := nth_mem hkL
        have hLm : (l.length : Int) = m := by rw [← L1.out]
        by_cases h1 : nth l k < 0
        · have HF := Lib.hid (ord_out hmem (.inl h1))
          have e1 : decide (nth l k < 0) = true := by simpa using h1
          generalize nth l k = x at *
          clear hLm h1 hmem
          have SH := Lib.hid S; clear S
          go_wp2
          go_ret
          exact ⟨by rw [HF.out]; rfl, SH.out.ext⟩
        · have e1 : decide (nth l k < 0) = false := by simpa using h1
          by_cases h2 : (m:Int) ≤ nth l k
          · have HF := Lib.hid (ord_out hmem (.inr (by omega)))
            have e2 : decide ((m:Int) ≤ nth l k) = true := by simpa using h2
            generalize nth l k = x at *
            clear hLm h1 h2 hmem
            have SH := Lib.hid S; clear S
            go_wp2
            go_ret
            exact ⟨by rw [HF.out]; rfl, SH.out.ext⟩
          · obtain ⟨b, hb⟩ : ∃ b : Nat, nth l k = (b:Int) := ⟨(nth l k).toNat, by omega⟩
            have hbm : b < m := by omega
            have fz := own_frozen (S.own 0 rfl) (by omega) b
            have cz := own_cell (S.own 0 rfl) (k := b) (by omega)
            rw [List.getD_eq_getElem?_getD, thL_at hbm, Option.getD_some] at cz
            have ps := (S.rdx 0 rfl).ptr
            have e3 : decide ((b:Int) < 0) = false := by simp
            have e4 : decide ((m:Int) ≤ b) = false := by simp; omega
            have e5 : (b:Int) < m := by omega
            by_cases h3 : (b:Int) ∈ l.take k
            · have HF := Lib.hid (ord_dup hkL (by rw [hb]; exact h3))
              rw [decide_eq_true h3] at cz
              rw [hb] at g1
              clear hLm h1 h2 hmem h3 e1 hb fz
              have SH := Lib.hid S; clear S
              go_wp2
              go_ret
              exact ⟨by rw [HF.out]; rfl, SH.out.ext⟩
            · have HO : Hid (OkT l (k + 1) m) := okT_step hkL ok.out (by omega) (by rw [hb]; exact h3)
              have HT := Lib.hid (thL_set (m := m) hkL hb)
              rw [decide_eq_false h3] at cz
              rw [hb] at g1
              clear hLm h1 h2 hmem h3 e1 hb
              have SH := Lib.hid S; clear S
              go_wp2
              go_roundw
              case rel => exact ⟨k + 1, by omega, by go_num, HO.out, by rw [← HT.out]; exact SH.out.setRow 0 rfl b (by omega) (.bool true)⟩
              case measure => simp [intOf]; omega
      · obtain rfl : k = m := by omega
        have HF := Lib.hid (okT_end L1.out ok.out)
        have SH := Lib.hid S; clear S
        go_wp2
        go_ret
        exact ⟨by rw [HF.out]; rfl, SH.out.ext⟩
  · have c1 : ((m:Int) != n) = true := by simpa using hn
    have hn2 : ¬ (l.length : Int) = n := by rw [← L1.out]; exact hn
    rw [decide_eq_false hn2, Bool.false_and]
    clear hn hn2 hl
    go_enter Try.func10, Try.ntmps10
    go_wp2
    go_ret
    exact ⟨rfl, Below.refl _ _⟩
end Go.Proofs.Ythlmcfbadhidbaa
/- The program's orders (chapter 11): Places, Turns. -/
namespace Go.Proofs.Ythlmcfbadhidbaa
open Go Go.RowKit
def plV' (l : List Int) : List Int := if ordB l = true then placesL l else []
def plC (l : List Int) : Int := if ordB l = true then 0 else 1
set_option maxRecDepth 100000 in
set_option maxHeartbeats 4000000 in
theorem PlacesG (p : Option Addr) (m c : Nat) (l : List Int) (w : World) (hl : Rd w 1 p m (encI l)) (hm : m ≤ 1000) :
    Calls Try.prog 17 #[.slice p m c] w fun e w' => ∃ q c', e = .returned (.tuple #[.slice q (plV' l).length c', .int .i64 (plC l)]) ∧ Sep w w' [.own 3 1 q (plV' l).length c' (encI (plV' l))] := by
  obtain ⟨i0, hi0, hz0, hz1, hz2⟩ := info_parts infI
  have L1 := Lib.hid hl.nI
  have p1 := hl.ptr
  have HI := Lib.hid (OrdIsG p m c l m w hl hm)
  have hN : isN l (m:Int) = ordB l := by unfold isN; rw [← L1.out, decide_eq_true rfl, Bool.true_and]
  rw [hN] at HI
  have HL := Lib.hid hl; clear hl
  unfold plV' plC
  cases ho : ordB l with
  | false =>
    rw [ho] at HI
    clear ho hN
    rw [if_neg (by simp), if_neg (by simp)]
    go_enter Try.func17, Try.ntmps17
    go_wp2_with (go_at_call 10; go_must (refine HI.out.mono ?_; rintro e w1 ⟨rfl, hb⟩; have S1 := Lib.hid ((Sep.start w).call hb); clear hb))
    go_ret2
    exact ⟨none, 0, rfl, S1.out.nilrow _ _⟩
  | true =>
    rw [ho] at HI
    have HO := Lib.hid (ordB_iff.1 ho).2.2
    have HLM : Hid (placesL l = posL l m (List.replicate m 0)) := by unfold Hid placesL; rw [← L1.out]
    have HPL : Hid ((placesL l).length = m) := by unfold Hid placesL; rw [posL_len, List.length_replicate, ← L1.out]
    clear ho hN
    rw [if_pos rfl, if_pos rfl]
    go_enter Try.func17, Try.ntmps17
    go_wp2_with (first
      | (at_make; go_must (refine wpList_make_sep rfl _ _ _ rfl 3 i0 _ 1 Try.underlying23 hi0 hz0 hz1 (m:Int) m rfl rfl rfl (by rw [hz2]; omega) (by unfold maxLen; omega) S1.out ?_; intro w2 S'; rw [madeIn] at S'; have S2 := Lib.hid S'; clear S'))
      | (go_at_call 10; go_must (refine HI.out.mono ?_; rintro e w1 ⟨rfl, hb⟩; have S1 := Lib.hid ((Sep.start w).call hb); clear hb)))
    generalize (some ⟨w1.heap.size, 0, none⟩ : Option Addr) = q at *
    go_loopw [5, 6, 17] (fun _ _ i wr => ∃ k : Nat, k ≤ m ∧ i = .int .i64 k ∧ Sep w wr [.own 3 1 q m m (encI (posL l k (List.replicate m 0)))]) (fun _ _ i _ => m - (intOf i).toNat)
    case atStart => exact ⟨0, Nat.zero_le _, rfl, S2.out⟩
    case round =>
      clear S1 S2
      obtain ⟨k, hk, rfl, S⟩ := hrel
      by_cases hlt : k < m
      · have g1 := S.ext.cell (HL.out.cI hlt)
        have hkL : k < l.length := by rw [← L1.out]; exact hlt
        have d1 : (0:Int) ≤ k := by omega
        have d2 : (k:Int) < m := by omega
        obtain ⟨b1, b2⟩ := HO.out _ (nth_mem hkL)
        obtain ⟨b, hb⟩ : ∃ b : Nat, nth l k = (b:Int) := ⟨(nth l k).toNat, by omega⟩
        have hst := posL_step l k (List.replicate m 0)
        rw [hb, Int.toNat_natCast] at hst
        have HST := Lib.hid hst
        have hL1 := L1.out
        have hbm : b < m := by omega
        have e5 : (b:Int) < m := by omega
        have ps := (S.rdx 0 rfl).ptr
        have fz := own_frozen (S.own 0 rfl) (by omega) b
        have cz := (S.rdx 0 rfl).cI hbm
        rw [hb] at g1
        clear hb hst hL1 b1 b2
        generalize nth (posL l k (List.replicate m 0)) b = z at *
        have SH := Lib.hid S; clear S
        go_wp2
        go_roundw
        case rel => exact ⟨k + 1, by omega, by go_num, by rw [HST.out, ← encI_set]; exact SH.out.setRow 0 rfl b (by omega) (.int .i64 k)⟩
        case measure => simp [intOf]; omega
      · obtain rfl : k = m := by omega
        have SH := Lib.hid S; clear S
        go_wp2
        go_ret2
        exact ⟨q, k, by rw [HPL.out]; rfl, by rw [HPL.out, HLM.out]; exact SH.out⟩
def turnV (l : List Int) : Int := if 12 < l.length then 0 else if ordB l = true then (turnA l : Nat) else 0
def turnC (l : List Int) : Int := if 12 < l.length then 1 else if ordB l = true then 0 else 1
theorem less_step (l : List Int) (i j : Nat) (hj : j < (l.drop (i + 1)).length) : (((l.drop (i + 1)).take (j + 1)).countP fun w => decide (w < nth l i)) = (((l.drop (i + 1)).take j).countP fun w => decide (w < nth l i)) + (if nth (l.drop (i + 1)) j < nth l i then 1 else 0) := by
  rw [take_succ_nth _ j hj, List.countP_append, List.countP_singleton]
  by_cases h : nth (l.drop (i + 1)) j < nth l i
  · rw [decide_eq_true h, if_pos h, if_pos rfl]
  · rw [decide_eq_false h, if_neg h, if_neg (by simp)]
set_option maxRecDepth 100000 in
set_option maxHeartbeats 4000000 in
theorem TurnsG (p : Option Addr) (m c : Nat) (l : List Int) (w : World) (hl : Rd w 1 p m (encI l)) (hm : m ≤ 1000) (hmc : m ≤ c) :
    Calls Try.prog 9 #[.slice p m c] w fun e w' => e = .returned (.tuple #[.int .i64 (turnV l), .int .i64 (turnC l)]) ∧ Ext w w' := by
  have L1 := Lib.hid hl.nI
  have p1 := hl.ptr
  unfold turnV turnC
  by_cases h12 : 12 < m
  · have c1 : decide ((12:Int) < m) = true := by simp; omega
    have hL : 12 < l.length := by rw [← L1.out]; exact h12
    simp only [if_pos hL]
    clear hl h12 hL
    go_enter Try.func9, Try.ntmps9
    go_wp2
    go_ret2
    exact ⟨rfl, Below.refl _ _⟩
  · have c1 : decide ((12:Int) < m) = false := by simp; omega
    have hL : ¬ 12 < l.length := by rw [← L1.out]; exact h12
    simp only [if_neg hL]
    clear hL
    have HI := Lib.hid (OrdIsG p m c l m w hl hm)
    have hN : isN l (m:Int) = ordB l := by unfold isN; rw [← L1.out, decide_eq_true rfl, Bool.true_and]
    rw [hN] at HI
    have HL := Lib.hid hl; clear hl
    cases ho : ordB l with
    | false =>
      rw [ho] at HI
      clear ho hN h12
      rw [if_neg (by simp), if_neg (by simp)]
      go_enter Try.func9, Try.ntmps9
      go_wp2_with (go_at_call 10; go_must (refine HI.out.mono ?_; rintro e w1 ⟨rfl, hb⟩; have E1 := Lib.hid hb; clear hb))
      go_ret2
      exact ⟨rfl, E1.out⟩
    | true =>
      rw [ho] at HI
      clear ho hN
      rw [if_pos rfl, if_pos rfl]
      have hm12 : m ≤ 12 := by omega
      have HTL : Hid (turnA l < 479001600) := by
        have h1 := turn_lt l
        have h2 := fac_mono (m := l.length) (n := 12) (by rw [← L1.out]; exact hm12)
        rw [fac_12] at h2
        exact Nat.lt_of_lt_of_le h1 h2
      clear h12
      go_enter Try.func9, Try.ntmps9
      go_wp2_with (go_at_call 10; go_must (refine HI.out.mono ?_; rintro e w1 ⟨rfl, hb⟩; have E1 := Lib.hid hb; clear hb))
      go_loopw [4, 5, 6, 7, 9, 22] (fun v4 _ _ _ _ i wr => ∃ k g : Nat, k ≤ m ∧ i = .int .i64 k ∧ v4 = .int .i64 g ∧ Hid (g * fac (l.length - k) + turnA (l.drop k) = turnA l) ∧ Ext w wr) (fun _ _ _ _ _ i _ => m - (intOf i).toNat)
      case atStart => exact ⟨0, 0, Nat.zero_le _, rfl, rfl, by show 0 * _ + turnA (l.drop 0) = _; rw [Nat.zero_mul, List.drop_zero, Nat.zero_add], E1.out⟩
      case round =>
        clear E1 HI
        obtain ⟨k, g, hk, rfl, rfl, hg, hE⟩ := hrel
        by_cases hlt : k < m
        · have g1 := hE.cell (HL.out.cI hlt)
          have hkL : k < l.length := by rw [← L1.out]; exact hlt
          have d1 : (0:Int) ≤ k := by omega
          have d2 : (k:Int) < m := by omega
          have d3 : (k:Int) + 1 ≤ m := by omega
          have d4 : (0:Int) ≤ (k:Int) + 1 := by omega
          have hcut := HL.out.cut (l := k + 1) (h := m) (c := c) (by omega) (Nat.le_refl _) hmc
          rw [encI_drop, encI_take] at hcut
          have hlen : (l.drop (k + 1)).length = m - (k + 1) := by rw [List.length_drop, ← L1.out]
          rw [List.take_of_length_le (by omega)] at hcut
          have HCT := Lib.hid hcut
          have p2 := hcut.ptr
          have HLS := Lib.hid (fun j (hj : j < m - (k + 1)) => less_step l k j (by rw [hlen]; exact hj))
          have HLN : Hid (lessN l k = ((l.drop (k + 1)).take (m - (k + 1))).countP fun w => decide (w < nth l k)) := by
            unfold Hid lessN; rw [List.take_of_length_le (by omega)]
          have HN1 := Lib.hid (turn_horn hkL hg.out)
          have HLE := Lib.hid (lessN_le l k)
          obtain ⟨r, hr⟩ : ∃ r, m - k = r := ⟨_, rfl⟩
          have e1 : (m:Int) - (k:Int) = (r:Int) := by omega
          obtain ⟨gr, hgr⟩ : ∃ gr, g * r = gr := ⟨_, rfl⟩
          have e2 : (g:Int) * (r:Int) = (gr:Int) := by rw [← hgr]; exact (Int.natCast_mul g r).symm
          have hN1 := HN1.out
          rw [← L1.out, hr, hgr] at hN1
          have hbd : gr + lessN l k ≤ turnA l := by
            have h1 := fac_pos (m - (k + 1))
            have h2 := Nat.le_mul_of_pos_right (gr + lessN l k) h1
            omega
          have hTL := HTL.out
          have HN2 : Hid ((gr + lessN l k) * fac (l.length - (k + 1)) + turnA (l.drop (k + 1)) = turnA l) := by unfold Hid; rw [← L1.out]; exact hN1
          have hgb : gr ≤ 479001600 := by omega
          have hlb : lessN l k ≤ 479001600 := by omega
          obtain ⟨M, hM⟩ : ∃ M, m - (k + 1) = M := ⟨_, rfl⟩
          rw [hM] at HCT HLS HLN
          rw [hM] at p2
          have hM12 : M ≤ 12 := by omega
          have hM2 := Lib.hid hM
          generalize hx : nth l k = x at *
          generalize hD : l.drop (k + 1) = D at *
          have HDx := Lib.hid (And.intro hx hD)
          generalize lessN l k = ln at *
          have HE := Lib.hid hE; clear hE
          clear hg hcut hkL hN1 hbd hTL hr hgr hx hD HN1 hlen
          go_wp2
          go_loopw [7, 9, 32] (fun v7 _ i wx => ∃ j : Nat, j ≤ M ∧ i = .int .i64 j ∧ v7 = .int .i64 (((D.take j).countP fun w => decide (w < x) : Nat) : Int) ∧ Ext w wx) (fun _ _ i _ => M - (intOf i).toNat)
          case atStart => exact ⟨0, Nat.zero_le _, rfl, rfl, HE.out⟩
          case round =>
            clear HE
            obtain ⟨j, hj, rfl, rfl, hE⟩ := hrel
            by_cases hlj : j < M
            · have g2 := hE.cell (HCT.out.cI hlj)
              have f1 : (0:Int) ≤ j := by omega
              have f2 : (j:Int) < M := by omega
              have hst := HLS.out j hlj
              have hcl : ((D.take j).countP fun w => decide (w < x)) ≤ 12 := by
                have h1 := List.countP_le_length (p := fun w : Int => decide (w < x)) (l := D.take j)
                rw [List.length_take] at h1; omega
              generalize ((D.take j).countP fun w => decide (w < x)) = cc at *
              by_cases hlx : nth D j < x
              · rw [if_pos hlx] at hst
                have f3 : decide (nth D j < x) = true := by simpa using hlx
                have HST := Lib.hid hst
                generalize nth D j = y at *
                clear hst hlx
                have HE := Lib.hid hE; clear hE
                go_wp2
                go_roundw
                case rel => exact ⟨j + 1, by omega, by go_num, by rw [HST.out]; go_num, HE.out⟩
                case measure => simp [intOf]; omega
              · rw [if_neg hlx] at hst
                have f3 : decide (nth D j < x) = false := by simpa using hlx
                have HST := Lib.hid hst
                generalize nth D j = y at *
                clear hst hlx
                have HE := Lib.hid hE; clear hE
                go_wp2
                go_roundw
                case rel => exact ⟨j + 1, by omega, by go_num, by rw [HST.out, Nat.add_zero], HE.out⟩
                case measure => simp [intOf]; omega
            · obtain rfl : j = M := by omega
              rw [← HLN.out]
              have HE := Lib.hid hE; clear hE
              go_wp2
              go_roundw
              case rel => exact ⟨k + 1, gr + ln, by omega, by go_num, by go_num, HDx.out.2 ▸ HN2.out, HE.out⟩
              case measure => simp [intOf]; omega
        · obtain rfl : k = m := by omega
          have hgt : g = turnA l := by
            have := hg.out
            rw [← L1.out, Nat.sub_self, fac, List.drop_of_length_le (by rw [← L1.out]; exact Nat.le_refl _), turnA] at this
            omega
          have HG := Lib.hid hgt
          clear hg hgt
          have HE := Lib.hid hE; clear hE
          go_wp2
          go_ret2
          exact ⟨by rw [HG.out]; rfl, HE.out⟩
end Go.Proofs.Ythlmcfbadhidbaa
/- The library's Delete of integers, onto a row of the call's own. -/
namespace Go.Proofs.Ythlmcfbadhidbaa
open Go Go.RowKit Go.Shelf Go.Lib Go.Sort
theorem own_capmax {w : World} {base : Nat} {e : TypeId} {size n c g : Nat} {xs : List Value} (ho : w.ownsRow base e size (.slice (some ⟨g, 0, none⟩) n c) n xs) : c ≤ 9223372036854775807 := by
  rcases ho.2 with ⟨h1, h2⟩ | ⟨g', cap, cur, h1, hb, hh, hn, hm, hs, ht⟩
  · injection h1 with h1 _ h3; cases h1
  · injection h1 with h1 _ h3; subst h3
    unfold maxLen at hm; omega
theorem DeleteI (base : Nat) (q : Option Addr) (n c d : Nat) (l : List Int) (w : World) (ho : w.ownsRow base 3 1 (.slice q n c) n (encI l)) (hn : n ≤ 1000000) (hd : d < n) :
    Calls Try.prog 19 #[.slice q n c, .int .i64 d, .int .i64 ((d:Int) + 1)] w fun e w' => e = .returned (.slice q (n - 1) c) ∧ w'.ownsRow base 3 1 (.slice q (n - 1) c) (n - 1) (encI (l.eraseIdx d)) ∧ w.grownBy w' (blkOf q) := by
  have hl : n = l.length := by have := ho.1; rw [encI_len] at this; omega
  obtain ⟨g, hq, hg⟩ := own_block ho (by omega)
  subst hq
  have hcap := own_cap ho
  have hmax := own_capmax ho
  have hcon := Any.slices_Delete_int Try.delI g 0 c d (d + 1) l w (holdsI ho hn) (by omega) (by omega) (by omega) (by omega)
  rw [← hl] at hcon
  refine hcon.mono ?_
  rintro e w' ⟨he, m, rfl⟩
  have e0 : n - (d + 1 - d) = n - 1 := by omega
  have e1 : d + 1 - d = 1 := by omega
  rw [e0] at he
  have e2 : l.take d ++ l.drop (d + 1) = l.eraseIdx d := (List.eraseIdx_eq_take_drop_succ l d).symm
  have e4 : (l.eraseIdx d).length = n - 1 := by rw [List.length_eraseIdx_of_lt (by omega)]; omega
  have e3 : putRow (Value.int .i64) (Sort.ahead w m) g 0 (l.take d ++ l.drop (d + 1) ++ List.replicate (d + 1 - d) 0).toArray = grow (putRow id (Sort.ahead w m) g 0 (encI (l.eraseIdx d) ++ encI (List.replicate 1 0)).toArray) #[] := by
    rw [putRow_mapI, grow_empty, e1, e2]; simp [encI]
  rw [e3]
  have hp := own_put ho (ys := encI (l.eraseIdx d) ++ encI (List.replicate 1 0)) (by rw [List.length_append, encI_len, encI_len, List.length_replicate, e4]; omega) m #[]
  exact ⟨he, own_take hp.1 (by rw [encI_len, Nat.mul_one, e4]) (by omega), hp.2⟩
/-- onto a piece -/
theorem DeleteI_sep {w0 w : World} {Γ : List Pc} (S : Sep w0 w Γ) (j : Nat) {q : Option Addr} {n c : Nat} {l : List Int} (hj : Γ[j]? = some (.own 3 1 q n c (encI l))) (d : Nat) (hn : n ≤ 1000000) (hd : d < n) :
    Calls Try.prog 19 #[.slice q n c, .int .i64 d, .int .i64 ((d:Int) + 1)] w fun e w' => e = .returned (.slice q (n - 1) c) ∧ Sep w0 w' (Γ.set j (.own 3 1 q (n - 1) c (encI (l.eraseIdx d)))) :=
  (DeleteI _ q n c d l w (S.own j hj) hn hd).mono fun _ _ ⟨he, ho, hg⟩ => ⟨he, S.put j hj _ hg (fun _ hk => hk) (own_base ho (Nat.zero_le _)) fun _ hk => .inl hk⟩
end Go.Proofs.Ythlmcfbadhidbaa
/- The program's orders (chapter 11): Nth. -/
namespace Go.Proofs.Ythlmcfbadhidbaa
open Go Go.RowKit
def nthOk (n k : Int) : Bool := decide (0 ≤ n) && decide (n ≤ 12) && decide (0 ≤ k) && decide (k < fac n.toNat)
def nthV (n k : Int) : List Int := if nthOk n k = true then nthI n.toNat k.toNat else []
def nthC (n k : Int) : Int := if nthOk n k = true then 0 else 1
/-- the digits that are told behind i rounds -/
def digR (a b i : Nat) : List Int := (List.range a).map fun j => if a ≤ j + i then ((b / fac (a - 1 - j) % (a - j) : Nat) : Int) else 0
theorem digR_len (a b i : Nat) : (digR a b i).length = a := by simp [digR]
theorem digR_0 (a b : Nat) : digR a b 0 = List.replicate a 0 := by
  apply List.ext_getElem
  · simp [digR]
  · intro j h1 h2
    have : j < a := by simpa [digR] using h1
    simp [digR]; omega
theorem digR_set {a b i : Nat} (hi : i < a) : (digR a b i).set (a - 1 - i) ((b / fac i % (i + 1) : Nat) : Int) = digR a b (i + 1) := by
  apply List.ext_getElem
  · simp [digR]
  · intro j h1 h2
    have hj : j < a := by simpa [digR] using h2
    rw [List.getElem_set]
    simp only [digR, List.getElem_map, List.getElem_range]
    by_cases h : a - 1 - i = j
    · rw [if_pos h, if_pos (by omega)]
      have e1 : a - 1 - j = i := by omega
      have e2 : a - j = i + 1 := by omega
      rw [e1, e2]
    · rw [if_neg h]
      by_cases h3 : a ≤ j + i
      · rw [if_pos h3, if_pos (by omega)]
      · rw [if_neg h3, if_neg (by omega)]
theorem digR_nth {a b j : Nat} (hj : j < a) : nth (digR a b a) j = ((b / fac (a - 1 - j) % (a - j) : Nat) : Int) := by
  rw [nth_eq (by rw [digR_len]; exact hj)]
  simp [digR, show a ≤ j + a by omega]
theorem fac_div (b i : Nat) : b / fac i / (i + 1) = b / fac (i + 1) := by rw [Nat.div_div_eq_div_mul, fac, Nat.mul_comm]
theorem nthV_no {n k : Int} (h : nthOk n k = false) : nthV n k = [] := by unfold nthV; rw [h]; rfl
theorem nthC_no {n k : Int} (h : nthOk n k = false) : nthC n k = 1 := by unfold nthC; rw [h]; rfl
theorem nthV_yes {a b : Nat} (h : nthOk (a:Int) (b:Int) = true) : nthV (a:Int) (b:Int) = nthI a b := by unfold nthV; rw [h]; simp
theorem nthC_yes {n k : Int} (h : nthOk n k = true) : nthC n k = 0 := by unfold nthC; rw [h]; rfl
set_option maxRecDepth 100000 in
set_option maxHeartbeats 8000000 in
theorem NthG (n k : Int) (w : World) (hkm : k ≤ 9223372036854775807) : Calls Try.prog 8 #[.int .i64 n, .int .i64 k] w fun e w' => ∃ q c, e = .returned (.tuple #[.slice q (nthV n k).length c, .int .i64 (nthC n k)]) ∧ Sep w w' [.own 3 1 q (nthV n k).length c (encI (nthV n k))] := by
  obtain ⟨i0, hi0, hz0, hz1, hz2⟩ := info_parts infI
  by_cases hn : n < 0
  · have e : nthOk n k = false := by unfold nthOk; rw [decide_eq_false (by omega)]; rfl
    rw [nthV_no e, nthC_no e]
    have c1 : decide (n < 0) = true := by simpa using hn
    clear hn e
    go_enter Try.func8, Try.ntmps8
    go_wp2
    go_ret2
    exact ⟨none, 0, rfl, (Sep.start w).nilrow _ _⟩
  · have c1 : decide (n < 0) = false := by simpa using hn
    by_cases hn2 : 12 < n
    · have e : nthOk n k = false := by unfold nthOk; rw [decide_eq_false (show ¬ n ≤ 12 by omega)]; simp
      rw [nthV_no e, nthC_no e]
      have c2 : decide (12 < n) = true := by simpa using hn2
      clear hn hn2 e
      go_enter Try.func8, Try.ntmps8
      go_wp2
      go_ret2
      exact ⟨none, 0, rfl, (Sep.start w).nilrow _ _⟩
    · have c2 : decide (12 < n) = false := by simpa using hn2
      by_cases hk : k < 0
      · have e : nthOk n k = false := by unfold nthOk; rw [decide_eq_false (show ¬ 0 ≤ k by omega)]; simp
        rw [nthV_no e, nthC_no e]
        have c3 : decide (k < 0) = true := by simpa using hk
        clear hn hn2 hk e
        go_enter Try.func8, Try.ntmps8
        go_wp2
        go_ret2
        exact ⟨none, 0, rfl, (Sep.start w).nilrow _ _⟩
      · obtain ⟨a, rfl⟩ : ∃ a : Nat, n = a := ⟨n.toNat, by omega⟩
        obtain ⟨b, rfl⟩ : ∃ b : Nat, k = b := ⟨k.toNat, by omega⟩
        have c3 : decide ((b:Int) < 0) = false := by simp
        have c4 : decide ((a:Int) < 0) = false := by simp
        have ha : a ≤ 12 := by omega
        have ho : nthOk (a:Int) (b:Int) = decide (b < fac a) := by
          unfold nthOk
          rw [decide_eq_true (show (0:Int) ≤ a by omega), decide_eq_true (show (a:Int) ≤ 12 by omega), decide_eq_true (show (0:Int) ≤ b by omega), Int.toNat_natCast]
          simp
        have HO := Lib.hid ho
        obtain ⟨NV, hNV⟩ : ∃ x, x = nthV (a:Int) (b:Int) := ⟨_, rfl⟩
        obtain ⟨NC, hNC⟩ : ∃ x, x = nthC (a:Int) (b:Int) := ⟨_, rfl⟩
        rw [← hNV, ← hNC]
        have HNV := Lib.hid hNV
        have HNC := Lib.hid hNC
        clear hNV hNC
        clear ho hn hn2 hk c1
        go_enter Try.func8, Try.ntmps8
        go_wp2_with (at_make; go_must (refine wpList_make_sep rfl _ _ _ rfl 3 i0 _ 1 Try.underlying23 hi0 hz0 hz1 (a:Int) a rfl rfl rfl (by rw [hz2]; omega) (by unfold maxLen; omega) (Sep.start w) ?_; intro w1 S'; rw [madeIn, ← digR_0 a b] at S'; have S1 := Lib.hid S'; clear S'))
        generalize (some ⟨w.heap.size, 0, none⟩ : Option Addr) = qd at *
        go_loopw [1, 7, 26] (fun v1 _ i wr => ∃ k : Nat, k ≤ a ∧ i = .int .i64 k ∧ v1 = .int .i64 (b / fac k : Nat) ∧ Sep w wr [.own 3 1 qd a a (encI (digR a b k))]) (fun _ _ i _ => a - (intOf i).toNat)
        case atStart => exact ⟨0, Nat.zero_le _, rfl, by rw [fac, Nat.div_one], S1.out⟩
        case round =>
          clear S1
          obtain ⟨k, hk, rfl, rfl, S⟩ := hrel
          by_cases hlt : k < a
          · have d1 : decide ((k:Int) < a) = true := by simp; omega
            obtain ⟨d, hd⟩ : ∃ d, a - 1 - k = d := ⟨_, rfl⟩
            have e1 : (a:Int) - 1 - (k:Int) = (d:Int) := by omega
            have hs := digR_set (b := b) hlt
            rw [hd] at hs
            have hq := fac_div b k
            obtain ⟨r, hr⟩ : ∃ r, b / fac k % (k + 1) = r := ⟨_, rfl⟩
            obtain ⟨g, hg⟩ : ∃ g, b / fac k = g := ⟨_, rfl⟩
            rw [hr] at hs
            rw [hg] at hq hr
            have e2 : Int.tmod (g:Int) ((k:Int) + 1) = (r:Int) := by rw [← hr]; exact (Int.ofNat_tmod g (k + 1)).symm
            have e3 : Int.tdiv (g:Int) ((k:Int) + 1) = ((b / fac (k + 1) : Nat) : Int) := by rw [← hq]; exact (Int.ofNat_tdiv g (k + 1)).symm
            have e4 : ((k:Int) + 1 == 0) = false := by simp; omega
            have e5 : (k:Int) + 1 ≠ 0 := by omega
            have d2 : (0:Int) ≤ d := by omega
            have d3 : (d:Int) < a := by omega
            have HS := Lib.hid hs
            have ps := (S.rdx 0 rfl).ptr
            have fz := own_frozen (S.own 0 rfl) (by omega) d
            have cz := (S.rdx 0 rfl).cI (k := d) (by omega)
            rw [hg]
            generalize nth (digR a b k) d = z at *
            have hg2 : b / fac (k + 1) ≤ 9223372036854775807 := Nat.le_trans (Nat.div_le_self _ _) (by omega)
            obtain ⟨g2, hgg⟩ : ∃ g2, b / fac (k + 1) = g2 := ⟨_, rfl⟩
            rw [hgg] at e3 hg2
            have HGG := Lib.hid hgg
            clear hgg
            clear hs hq hr hg hd
            have SH := Lib.hid S; clear S
            go_wp2
            go_roundw
            case rel => exact ⟨k + 1, by omega, by go_num, by rw [HGG.out], by rw [← HS.out, ← encI_set]; exact SH.out.setRow 0 rfl d (by omega) (.int .i64 r)⟩
            case measure => simp [intOf]; omega
          · obtain rfl : k = a := by omega
            by_cases hb : b < fac k
            · have hz : ((b / fac k : Nat) : Int) = 0 := by rw [Nat.div_eq_of_lt hb]; rfl
              rw [hz]
              have HB := Lib.hid hb
              have HDG : Hid (∀ j, j < k → nth (digR k b k) j = ((b / fac (k - 1 - j) % (k - j) : Nat) : Int)) := fun j hj => digR_nth hj
              have HDL := Lib.hid (digR_len k b k)
              generalize digR k b k = D at *
              have SH := Lib.hid S; clear S
              clear hb hz
              go_wp2
              go_loopw [8, 10, 47] (fun v8 _ i wr => ∃ (j : Nat) (q : Option Addr) (c : Nat), j ≤ k ∧ i = .int .i64 j ∧ v8 = .slice q j c ∧ Sep w wr [.own 3 1 q j c (encI (rangeI j)), .own 3 1 qd k k (encI D)]) (fun _ _ i _ => k - (intOf i).toNat)
              case atStart => exact ⟨0, none, 0, Nat.zero_le _, rfl, rfl, SH.out.nilrow 3 1⟩
              case round =>
                clear SH
                obtain ⟨j, q, c, hj, rfl, rfl, S⟩ := hrel
                by_cases hlj : j < k
                · have d2 : decide ((j:Int) < k) = true := by simp; omega
                  have HRS := Lib.hid (rangeI_step j)
                  have SH := Lib.hid S; clear S
                  go_wp2_with (at_builtin; go_must (refine wpList_append_sep rfl _ _ _ rfl 3 i0 _ 1 8 Try.underlying23 hi0 hz0 hz1 hz2 rfl (by omega) (SH.out.junk _) 0 q j c _ rfl rfl _ 1 1 _ rfl (Rd.oneI _ _ _) (one_encI _) (by omega) (by omega) ?_; intro q' c' w7 S' hsz; have S6 := Lib.hid S'; clear S' hsz))
                  go_roundw
                  case rel => exact ⟨j + 1, q', c', by omega, by go_num, rfl, by rw [HRS.out, encI_append]; exact S6.out⟩
                  case measure => simp [intOf]; omega
                · obtain rfl : j = k := by omega
                  have SH := Lib.hid S; clear S
                  go_wp2
                  go_loopw [8, 9, 12, 57] (fun v8 v9 _ i wr => ∃ (t : Nat) (out L : List Int) (q1 : Option Addr) (c1 : Nat) (q2 : Option Addr) (c2 : Nat), t ≤ j ∧ i = .int .i64 t ∧ v8 = .slice q1 (j - t) c1 ∧ v9 = .slice q2 t c2 ∧ Hid (out.length = t ∧ L.length = j - t ∧ out ++ nthA (j - t) L (b % fac (j - t)) = nthI j b) ∧ Sep w wr [.own 3 1 q2 t c2 (encI out), .own 3 1 q1 (j - t) c1 (encI L), .own 3 1 qd j j (encI D)]) (fun _ _ _ i _ => j - (intOf i).toNat)
                  case atStart => exact ⟨0, [], rangeI j, q, c, none, 0, Nat.zero_le _, rfl, rfl, rfl, ⟨rfl, rangeI_len j, by rw [Nat.sub_zero, Nat.mod_eq_of_lt HB.out]; rfl⟩, SH.out.nilrow 3 1⟩
                  case round =>
                    clear SH
                    obtain ⟨t, out, L, q1, c1', q2, c2', ht, rfl, rfl, rfl, hI, S⟩ := hrel
                    by_cases hlt2 : t < j
                    · have d2 : decide ((t:Int) < j) = true := by simp; omega
                      obtain ⟨m, hm⟩ : ∃ m, j - t = m + 1 := ⟨j - t - 1, by omega⟩
                      rw [hm] at hI S ⊢
                      have hD := HDG.out t hlt2
                      have e1 : j - 1 - t = m := by omega
                      rw [e1, hm] at hD
                      have g1 := (S.rdx 2 rfl).cI hlt2
                      rw [hD] at g1
                      obtain ⟨i1, i2, i3⟩ := hI.out
                      rw [nthA_step] at i3
                      obtain ⟨d, hd⟩ : ∃ d, b / fac m % (m + 1) = d := ⟨_, rfl⟩
                      rw [hd] at i3 g1
                      have hdm : d < m + 1 := by rw [← hd]; exact Nat.mod_lt _ (Nat.succ_pos m)
                      have hd12 : d ≤ 12 := by omega
                      have hm12 : m ≤ 12 := by omega
                      have ht12 : t ≤ 12 := by omega
                      have g2 := (S.rdx 1 rfl).cI (k := d) hdm
                      have f1 : (0:Int) ≤ t := by omega
                      have f2 : (t:Int) < j := by omega
                      have f3 : (0:Int) ≤ d := by omega
                      have f4 : (d:Int) < (m:Int) + 1 := by omega
                      have pq1 := (S.rdx 1 rfl).ptr
                      have pqd := (S.rdx 2 rfl).ptr
                      have I1 := Lib.hid i1
                      have I2 := Lib.hid i2
                      have I3 := Lib.hid i3
                      have HM := Lib.hid hm
                      generalize nth L d = x at *
                      have SH := Lib.hid S; clear S
                      clear i1 i2 i3 hI hD hd hm e1
                      go_wp2_with (first
                        | (at_builtin; go_must (refine wpList_append_sep rfl _ _ _ rfl 3 i0 _ 1 8 Try.underlying23 hi0 hz0 hz1 hz2 rfl (by omega) (SH.out.junk _) 0 q2 t c2' _ rfl rfl _ 1 1 _ rfl (Rd.oneI _ _ _) (one_encI _) (by omega) (by omega) ?_; intro q7 c7 w7 S' hsz; have S6 := Lib.hid S'; clear S' hsz))
                        | (go_at_call 19; go_must (refine (DeleteI_sep S6.out 1 rfl d (by omega) hdm).mono ?_; rintro e w8 ⟨rfl, S'⟩; have S8 := Lib.hid S'; clear S')))
                      go_roundw
                      case rel =>
                        have z1 := HM.out
                        have z2 := I1.out
                        have z3 := I2.out
                        have z4 : j - (t + 1) = m := by omega
                        exact ⟨t + 1, out ++ [x], L.eraseIdx d, q1, c1', q7, c7, by omega, by go_num, by rw [z4], rfl, ⟨by rw [List.length_append, z2]; rfl, by rw [List.length_eraseIdx_of_lt (by omega)]; omega, by rw [z4]; exact I3.out⟩, by rw [z4, encI_append]; exact S8.out⟩
                      case measure => simp [intOf]; omega
                    · obtain rfl : t = j := by omega
                      obtain ⟨i1, i2, i3⟩ := hI.out
                      rw [Nat.sub_self, nthA, List.append_nil] at i3
                      have I3 := Lib.hid i3
                      have I1 := Lib.hid i1
                      clear i1 i2 i3 hI
                      have SH := Lib.hid S; clear S
                      go_wp2
                      go_ret2
                      have hf := HO.out.trans (decide_eq_true HB.out)
                      rw [HNV.out, HNC.out, nthV_yes hf, nthC_yes hf, ← I3.out]
                      exact ⟨q2, c2', by rw [I1.out]; rfl, by rw [I1.out]; exact SH.out.pick [0] (by decide) rfl⟩
            · have HB := Lib.hid hb
              have hz : 0 < b / fac k := Nat.div_pos (by omega) (fac_pos k)
              generalize b / fac k = g at *
              have c6 : decide ((0:Int) < g) = true := by simp; omega
              have c7 : decide (0 < g) = true := by simpa using hz
              have c8 : (0:Int) < g := by omega
              have SH := Lib.hid S; clear S
              clear hb
              go_wp2
              go_ret2
              have hf := HO.out.trans (decide_eq_false HB.out)
              rw [HNV.out, HNC.out, nthV_no hf, nthC_no hf]
              exact ⟨none, 0, rfl, ((Sep.start w).call SH.out.ext).nilrow _ _⟩
end Go.Proofs.Ythlmcfbadhidbaa
/- Equal rows, equal edges, rows too big, a row that rises and has a number. -/
namespace Go.Proofs.Ythlmcfbadhidbaa
open Go Go.RowKit Go.Shelf Go.Lib
attribute [local go_sem ↓] eqEdge neqEdge guardEdge
theorem IntsY (p q : Option Addr) (n m c d : Nat) (A : List Int) (w : World) (h1 : Rd w 1 p n (encI A)) (h2 : Rd w 1 q m (encI A)) : Calls Try.prog 11 #[.slice p n c, .slice q m d] w fun e w' => e = .returned (.bool true) ∧ Ext w w' :=
  (Ints01 p q n m c d A A w h1 h2).mono fun e w' ⟨h3, h4⟩ => ⟨by rw [h3]; simp, h4⟩
/-- rows more than are looked at -/
def bigR (O T R V : List Int) : Bool := decide (30 < O.length) && decide (O.length ≤ 201) || decide (250 < O.length) || decide (250 < R.length) || decide (150 < T.length) && decide (T.length ≤ 2000) || decide (2100 < T.length) || decide (2100 < V.length)
set_option maxHeartbeats 2000000 in
theorem Big04 (po : Option Addr) (no co : Nat) (O : List Int) (pt : Option Addr) (nt ct : Nat) (T : List Int) (pr : Option Addr) (nr cr : Nat) (R : List Int) (pv : Option Addr) (nv cv : Nat) (V : List Int) (w : World) (hO : Rd w 1 po no (encI O)) (hT : Rd w 1 pt nt (encI T)) (hR : Rd w 1 pr nr (encI R)) (hV : Rd w 1 pv nv (encI V)) : Calls Try.prog 12 #[.agg #[.slice po no co, .slice pt nt ct, .slice pr nr cr, .slice pv nv cv]] w fun e w' => e = .returned (.bool (bigR O T R V)) ∧ Ext w w' := by
  have hd : bigR O T R V = (decide (30 < no) && decide (no ≤ 201) || decide (250 < no) || decide (250 < nr) || decide (150 < nt) && decide (nt ≤ 2000) || decide (2100 < nt) || decide (2100 < nv)) := by
    unfold bigR; rw [hO.nI, hT.nI, hR.nI, hV.nI]
  rw [hd]
  clear hd hO hT hR hV
  go_enter Try.func12, Try.ntmps12
  go_wp2
  all_goals (go_ret; refine ⟨ret_bool ?_, Ext.alloc (Below.refl _ _) _⟩; rw [Bool.eq_iff_iff]; simp only [Bool.or_eq_true, Bool.and_eq_true, decide_eq_true_eq, true_iff]; omega)
end Go.Proofs.Ythlmcfbadhidbaa
/- The document's example rows. -/
namespace Go.Proofs.Ythlmcfbadhidbaa
open Go Go.RowKit
def exE3 : List (Int × Int) := [(0, 1), (0, 2), (2, 1)]
def exO : List Int := [0, 2, 2, 3]
def exT : List Int := [1, 2, 1]
def exR : List Int := [0, 0, 2, 3]
def exV : List Int := [0, 2, 0]
theorem exI3 : isB 3 exE3 [[], [], []] = true := by decide
theorem exO_eq : offL 3 exE3 = exO := by decide
theorem exT_eq : toL exE3 = exT := by decide
theorem exR_eq : offL 3 (turnE exE3) = exR := by decide
theorem exV_eq : toL (turnE exE3) = exV := by decide
theorem exCk : checkR exO exT exR exV = true := by decide
theorem exIn : outL true exR exV 1 = [0, 2] ∧ outB true exR 1 = true := by decide
theorem exH1 : hasB true exO exT 0 2 = true := by decide
theorem exH2 : hasB true exO exT 1 0 = false := by decide
theorem exI0 : isB 0 [] [] = false := by decide
/-- four slices are read -/
structure R4 (w : World) (po : Option Addr) (no : Nat) (pt : Option Addr) (nt : Nat) (pr : Option Addr) (nr : Nat) (pv : Option Addr) (nv : Nat) (O T R V : List Int) : Prop where
  o : Rd w 1 po no (encI O)
  t : Rd w 1 pt nt (encI T)
  r : Rd w 1 pr nr (encI R)
  v : Rd w 1 pv nv (encI V)
theorem R4.ext {w w' : World} {po : Option Addr} {no : Nat} {pt : Option Addr} {nt : Nat} {pr : Option Addr} {nr : Nat} {pv : Option Addr} {nv : Nat} {O T R V : List Int} (h : R4 w po no pt nt pr nr pv nv O T R V) (he : Ext w w') : R4 w' po no pt nt pr nr pv nv O T R V := ⟨h.o.ext he, h.t.ext he, h.r.ext he, h.v.ext he⟩
theorem exMk3 (w : World) : Calls Try.prog 18 #[.agg #[.int .i64 3, .slice (some ⟨w.heap.size, 0, none⟩) 3 3, .slice (some ⟨w.heap.size + 1, 0, none⟩) 3 3]] ((w.alloc (.cells #[.int .i64 0, .int .i64 1, .int .i64 0, .int .i64 2, .int .i64 2, .int .i64 1] 44)).alloc (.cells #[.slice none 0 0, .slice none 0 0, .slice none 0 0] 81)) fun e w' =>
    ∃ po no co pt nt ct pr nr cr pv nv cv, e = .returned (.tuple #[.agg #[.slice po no co, .slice pt nt ct, .slice pr nr cr, .slice pv nv cv], .int .i64 0]) ∧ R4 w' po no pt nt pr nr pv nv exO exT exR exV ∧ nt ≤ ct ∧ nv ≤ cv ∧ Ext w w' := by
  obtain ⟨a1, a2, a3⟩ := alloc2B w #[.int .i64 0, .int .i64 1, .int .i64 0, .int .i64 2, .int .i64 2, .int .i64 1] #[.slice none 0 0, .slice none 0 0, .slice none 0 0] 44 81
  generalize ((w.alloc (.cells #[.int .i64 0, .int .i64 1, .int .i64 0, .int .i64 2, .int .i64 2, .int .i64 1] 44)).alloc (.cells #[.slice none 0 0, .slice none 0 0, .slice none 0 0] 81)) = W at *
  have h1 : Rd W 2 (some ⟨w.heap.size, 0, none⟩) 3 (encE exE3) := a1.rd rfl rfl (by decide)
  have h2 : RdW W (some ⟨w.heap.size + 1, 0, none⟩) 3 [⟨none, 0, 0⟩, ⟨none, 0, 0⟩, ⟨none, 0, 0⟩] [[], [], []] := ⟨rfl, a2.rd rfl rfl (by decide), fun j hj => by
    have : j = 0 ∨ j = 1 ∨ j = 2 := by omega
    rcases this with rfl | rfl | rfl <;> exact Rd.nil _ _ _⟩
  have hz : SzW [[], [], []] := fun l hl s hs => by simp at hl; subst hl; cases hs
  refine (RMakeG_yes 3 _ 3 3 _ 3 3 exE3 _ _ W h1 h2 hz exI3).mono ?_
  rintro e w' ⟨v, rfl, ⟨po, no, co, pt, nt, ct, pr, nr, cr, pv, nv, cv, rfl, k1, k2, k3, k4, k5, k6, k7, k8⟩, hb⟩
  rw [exO_eq] at k1
  rw [exT_eq] at k2
  rw [exR_eq] at k3
  rw [exV_eq] at k4
  exact ⟨po, no, co, pt, nt, ct, pr, nr, cr, pv, nv, cv, rfl, ⟨k1, k2, k3, k4⟩, k6, k8, Ext.trans a3 hb⟩
theorem exMk0 (w : World) : Calls Try.prog 18 #[.agg #[.int .i64 0, .slice none 0 0, .slice none 0 0]] w fun e w' => e = .returned (.tuple #[.agg #[.slice none 0 0, .slice none 0 0, .slice none 0 0, .slice none 0 0], .int .i64 20]) ∧ Ext w w' :=
  RMakeG_no 0 none 0 0 none 0 0 [] [] [] w (Rd.nil _ _ _) ⟨rfl, Rd.nil _ _ _, fun j hj => by omega⟩ (fun l hl => nomatch hl) exI0
section
variable (po : Option Addr) (no co : Nat) (pt : Option Addr) (nt ct : Nat) (pr : Option Addr) (nr cr : Nat) (pv : Option Addr) (nv cv : Nat) (w : World) (h : R4 w po no pt nt pr nr pv nv exO exT exR exV) (hct : nt ≤ ct) (hcv : nv ≤ cv)
include h hct hcv
theorem exInG : Calls Try.prog 16 #[.agg #[.slice po no co, .slice pt nt ct, .slice pr nr cr, .slice pv nv cv], .int .i64 1] w fun e w' => ∃ q c, e = .returned (.tuple #[.slice q 2 c, .bool true]) ∧ Rd w' 1 q 2 (encI [0, 2]) ∧ Ext w w' := by
  have := InG po no co exO pt nt ct exT pr nr cr exR pv nv cv exV w 1 h.o h.t h.r h.v hct hcv
  rw [exCk, exIn.1, exIn.2] at this
  exact this.mono fun e w' ⟨q, c, h1, S⟩ => ⟨q, c, h1, S.rd 0 rfl (by decide), S.ext⟩
theorem exCkG : Calls Try.prog 13 #[.agg #[.slice po no co, .slice pt nt ct, .slice pr nr cr, .slice pv nv cv]] w fun e w' => e = .returned (.bool true) ∧ Ext w w' := by
  have := CheckR po no co exO pt nt ct exT pr nr cr exR pv nv cv exV w h.o h.t h.r h.v hct hcv
  rwa [exCk] at this
end
/-- the example's rows where they lie -/
theorem exWant4 (w : World) (cs : Array Value) : ∃ X, X = (((((w.alloc (.cells cs 34)).alloc (.cells #[.int .i64 0, .int .i64 2, .int .i64 2, .int .i64 3] 3)).alloc (.cells #[.int .i64 1, .int .i64 2, .int .i64 1] 3)).alloc (.cells #[.int .i64 0, .int .i64 0, .int .i64 2, .int .i64 3] 3)).alloc (.cells #[.int .i64 0, .int .i64 2, .int .i64 0] 3)) ∧
    Sep w X [.blk w.heap.size 34 cs] ∧ X.heap.size = w.heap.size + 1 + 1 + 1 + 1 + 1 ∧
    R4 X (some ⟨w.heap.size + 1, 0, none⟩) 4 (some ⟨w.heap.size + 1 + 1, 0, none⟩) 3 (some ⟨w.heap.size + 1 + 1 + 1, 0, none⟩) 4 (some ⟨w.heap.size + 1 + 1 + 1 + 1, 0, none⟩) 3 exO exT exR exV := by
  have S := (((((Sep.start w).al cs 34 w.heap.size rfl).al #[.int .i64 0, .int .i64 2, .int .i64 2, .int .i64 3] 3 (w.heap.size + 1) (by simp)).al #[.int .i64 1, .int .i64 2, .int .i64 1] 3 (w.heap.size + 1 + 1) (by simp)).al #[.int .i64 0, .int .i64 0, .int .i64 2, .int .i64 3] 3 (w.heap.size + 1 + 1 + 1) (by simp)).al #[.int .i64 0, .int .i64 2, .int .i64 0] 3 (w.heap.size + 1 + 1 + 1 + 1) (by simp)
  exact ⟨_, rfl, S.pick [4] (by decide) rfl, by simp, (S.blk 3 rfl).rd rfl rfl (by decide), (S.blk 2 rfl).rd rfl rfl (by decide), (S.blk 1 rfl).rd rfl rfl (by decide), (S.blk 0 rfl).rd rfl rfl (by decide)⟩
end Go.Proofs.Ythlmcfbadhidbaa
/- The program's searches (chapter 8): a place's next ones; a side that begins. -/
namespace Go.Proofs.Ythlmcfbadhidbaa
open Go Go.RowKit
end Go.Proofs.Ythlmcfbadhidbaa
/- The program's searches (chapter 8): a side that begins. -/
namespace Go.Proofs.Ythlmcfbadhidbaa
open Go Go.RowKit
theorem Sep.alrow {w0 w : World} {Γ : List Pc} (S : Sep w0 w Γ) (cs : Array Value) (e : TypeId) (size n g : Nat) (hg : w.heap.size = g) (hm : n ≤ maxLen) (hs : cs.size = n * size) : Sep w0 (w.alloc (.cells cs e)) (.own e size (some ⟨g, 0, none⟩) n n cs.toList :: Γ) := by
  subst hg
  exact S.fresh (Ext.alloc (Below.refl _ _) _) (World.ownsRow_lit w cs n (Nat.le_refl _) hm hs) (Nat.le_refl _)
end Go.Proofs.Ythlmcfbadhidbaa
/- The document's example of chapter 11: its rows, their order, and what numbers tell. -/
namespace Go.Proofs.Ythlmcfbadhidbaa
open Go Go.RowKit
def e11E : List (Int × Int) := [(0, 1), (1, 0), (2, 1)]
def e11O : List Int := [0, 1, 2, 3]
def e11T : List Int := [1, 0, 1]
def e11R : List Int := [0, 1, 3, 3]
def e11V : List Int := [1, 0, 2]
theorem e11I : isB 3 e11E [[], [], []] = true := by decide +kernel
theorem e11O_eq : offL 3 e11E = e11O := by decide +kernel
theorem e11T_eq : toL e11E = e11T := by decide +kernel
theorem e11R_eq : offL 3 (turnE e11E) = e11R := by decide +kernel
theorem e11V_eq : toL (turnE e11E) = e11V := by decide +kernel
theorem e11Ck : checkR e11O e11T e11R e11V = true := by decide +kernel
theorem e11By : byR true e11O e11R = [1, 0, 2] := by decide +kernel
theorem e11N0 : nthV 3 0 = [0, 1, 2] ∧ nthC 3 0 = 0 := by decide +kernel
theorem e11N3 : nthV 3 3 = [1, 2, 0] ∧ nthC 3 3 = 0 := by decide +kernel
theorem e11N6 : nthV 3 6 = [] ∧ nthC 3 6 = 1 := by decide +kernel
theorem e11Tu : turnV [1, 2, 0] = 3 ∧ turnC [1, 2, 0] = 0 := by decide +kernel
theorem e11Is3 : isN [1, 0, 2] 3 = true := by decide +kernel
theorem e11Is4 : isN [1, 0, 2] 4 = false := by decide +kernel
theorem e11Cells : (#[.int .i64 0, .int .i64 1, .int .i64 1, .int .i64 0, .int .i64 2, .int .i64 1] : Array Value).toList = encE e11E := by simp [encE, e11E]
theorem made3s : (madeCells (Value.slice none 0 0).cells (3 * 1)).toList = [.slice none 0 0, .slice none 0 0, .slice none 0 0] := by kernel_rfl
theorem e11Mk (p q : Option Addr) (W : World) (h1 : Rd W 2 p 3 (encE e11E)) (h0 : Rd W 1 q 3 [.slice none 0 0, .slice none 0 0, .slice none 0 0]) : Calls Try.prog 18 #[.agg #[.int .i64 3, .slice p 3 3, .slice q 3 3]] W fun e w' =>
    ∃ po no co pt nt ct pr nr cr pv nv cv, e = .returned (.tuple #[.agg #[.slice po no co, .slice pt nt ct, .slice pr nr cr, .slice pv nv cv], .int .i64 0]) ∧ R4 w' po no pt nt pr nr pv nv e11O e11T e11R e11V ∧ nt ≤ ct ∧ nv ≤ cv ∧ Ext W w' := by
  have h2 : RdW W q 3 [⟨none, 0, 0⟩, ⟨none, 0, 0⟩, ⟨none, 0, 0⟩] [[], [], []] := ⟨rfl, h0, fun j hj => by
    have : j = 0 ∨ j = 1 ∨ j = 2 := by omega
    rcases this with rfl | rfl | rfl <;> exact Rd.nil _ _ _⟩
  have hz : SzW [[], [], []] := fun l hl s hs => by simp at hl; subst hl; cases hs
  refine (RMakeG_yes 3 _ 3 3 _ 3 3 e11E _ _ W h1 h2 hz e11I).mono ?_
  rintro e w' ⟨v, rfl, ⟨po, no, co, pt, nt, ct, pr, nr, cr, pv, nv, cv, rfl, k1, k2, k3, k4, k5, k6, k7, k8⟩, hb⟩
  rw [e11O_eq] at k1
  rw [e11T_eq] at k2
  rw [e11R_eq] at k3
  rw [e11V_eq] at k4
  exact ⟨po, no, co, pt, nt, ct, pr, nr, cr, pv, nv, cv, rfl, ⟨k1, k2, k3, k4⟩, k6, k8, hb⟩
theorem e11ByG (po : Option Addr) (no co : Nat) (pt : Option Addr) (nt ct : Nat) (pr : Option Addr) (nr cr : Nat) (pv : Option Addr) (nv cv : Nat) (w : World) (h : R4 w po no pt nt pr nr pv nv e11O e11T e11R e11V) (hct : nt ≤ ct) (hcv : nv ≤ cv) : Calls Try.prog 14 #[.agg #[.slice po no co, .slice pt nt ct, .slice pr nr cr, .slice pv nv cv]] w fun e w' => ∃ q c, e = .returned (.tuple #[.slice q 3 c, .int .i64 0]) ∧ Sep w w' [.own 3 1 q 3 c (encI [1, 0, 2])] := by
  have := ByG po no co e11O pt nt ct e11T pr nr cr e11R pv nv cv e11V w h.o h.t h.r h.v hct hcv
  rw [e11Ck, e11By] at this
  exact this
theorem e11Nth0 (w : World) : Calls Try.prog 8 #[.int .i64 3, .int .i64 0] w fun e w' => ∃ q c, e = .returned (.tuple #[.slice q 3 c, .int .i64 0]) ∧ Sep w w' [.own 3 1 q 3 c (encI [0, 1, 2])] := by
  have := NthG 3 0 w (by decide)
  rw [e11N0.1, e11N0.2] at this
  exact this
theorem e11Nth3 (w : World) : Calls Try.prog 8 #[.int .i64 3, .int .i64 3] w fun e w' => ∃ q c, e = .returned (.tuple #[.slice q 3 c, .int .i64 0]) ∧ Sep w w' [.own 3 1 q 3 c (encI [1, 2, 0])] := by
  have := NthG 3 3 w (by decide)
  rw [e11N3.1, e11N3.2] at this
  exact this
theorem e11Nth6 (w : World) : Calls Try.prog 8 #[.int .i64 3, .int .i64 6] w fun e w' => ∃ q c, e = .returned (.tuple #[.slice q 0 c, .int .i64 1]) ∧ Ext w w' := by
  have := NthG 3 6 w (by decide)
  rw [e11N6.1, e11N6.2] at this
  exact this.mono fun e w' ⟨q, c, h1, S⟩ => ⟨q, c, h1, S.ext⟩
theorem e11TurnsG (w : World) (p : Option Addr) (hl : Rd w 1 p 3 (encI [1, 2, 0])) : Calls Try.prog 9 #[.slice p 3 3] w fun e w' => e = .returned (.tuple #[.int .i64 3, .int .i64 0]) ∧ Ext w w' := by
  have := TurnsG p 3 3 [1, 2, 0] w hl (by decide) (by decide)
  rw [e11Tu.1, e11Tu.2] at this
  exact this
theorem e11IsG3 (w : World) (p : Option Addr) (c : Nat) (hl : Rd w 1 p 3 (encI [1, 0, 2])) : Calls Try.prog 10 #[.slice p 3 c, .int .i64 3] w fun e w' => e = .returned (.bool true) ∧ Ext w w' := by
  have := OrdIsG p 3 c [1, 0, 2] 3 w hl (by decide)
  rw [e11Is3] at this
  exact this
theorem e11IsG4 (w : World) (p : Option Addr) (c : Nat) (hl : Rd w 1 p 3 (encI [1, 0, 2])) : Calls Try.prog 10 #[.slice p 3 c, .int .i64 4] w fun e w' => e = .returned (.bool false) ∧ Ext w w' := by
  have := OrdIsG p 3 c [1, 0, 2] 4 w hl (by decide)
  rw [e11Is4] at this
  exact this
theorem row11_cells (w : World) (c : Array Value) (l : List Int) (n g : Nat) (hg : w.heap.size = g) (hc : c.toList = encI l) (hn : c.size = n) (hm : n ≤ maxLen) : Rd (w.alloc (.cells c 3)) 1 (some ⟨g, 0, none⟩) n (encI l) := by
  subst hg
  have h := ((Sep.start w).alrow c 3 1 n w.heap.size rfl hm (by omega))
  rw [hc] at h
  exact h.rd 0 rfl (Nat.le_trans hm (by decide))
set_option maxRecDepth 100000 in
set_option maxHeartbeats 4000000 in
theorem Orders11 (w : World) : Calls Try.prog 7 #[] w fun e w' => e = .returned (.bool true) ∧ Ext w w' := by
  obtain ⟨i0, hi0, hz0, hz1, hz2⟩ := info_parts inf35
  have SE : Hid (Sep w (w.alloc (.cells #[.int .i64 0, .int .i64 1, .int .i64 1, .int .i64 0, .int .i64 2, .int .i64 1] 44)) [.own 44 2 (some ⟨w.heap.size, 0, none⟩) 3 3 (encE e11E)]) := by
    have h := (Sep.start w).alrow #[.int .i64 0, .int .i64 1, .int .i64 1, .int .i64 0, .int .i64 2, .int .i64 1] 44 2 3 w.heap.size rfl (by decide) rfl
    rw [e11Cells] at h
    exact h
  have HQ : Hid ((w.alloc (.cells #[.int .i64 0, .int .i64 1, .int .i64 1, .int .i64 0, .int .i64 2, .int .i64 1] 44)).heap.size = w.heap.size + 1) := by unfold Hid; simp
  go_enter Try.func7, Try.ntmps7
  go_wp2_with (first
    | (at_make; go_must (refine wpList_make_sep rfl _ _ _ rfl 81 i0 _ 1 Try.underlying46 hi0 hz0 hz1 (3:Int) 3 rfl rfl rfl (by rw [hz2]; omega) (by unfold maxLen; omega) SE.out ?_; intro w0 S'; rw [made3s, HQ.out] at S'; have S0 := Lib.hid S'; clear S'))
    | (go_at_call 10; have _t := S10; go_must (refine (e11IsG4 _ _ _ (S10.out.rdx 2 rfl)).mono ?_; rintro e w11 ⟨rfl, hb⟩; have S11 := Lib.hid (S10.out.call hb); clear hb))
    | (go_at_call 10; have _t := S9; go_must (refine (e11IsG3 _ _ _ (S9.out.rdx 2 rfl)).mono ?_; rintro e w10 ⟨rfl, hb⟩; have S10 := Lib.hid (S9.out.call hb); clear hb))
    | (go_at_call 11; have _t := S8; go_must (refine (IntsY _ _ _ _ _ _ [1, 2, 0] _ (((S8.out.rdx 0 rfl)).ext (Ext.alloc (Below.refl _ _) _)) (row11_cells w8 _ [1, 2, 0] _ _ rfl rfl rfl (by decide))).mono ?_; rintro e w9 ⟨rfl, hb0⟩; have hb := Ext.trans (Ext.alloc (Below.refl _ _) _) hb0; have S9 := Lib.hid (S8.out.call hb); clear hb hb0))
    | (go_at_call 11; have _t := S7; go_must (refine (IntsY _ _ _ _ _ _ [0, 1, 2] _ (((S7.out.rdx 1 rfl)).ext (Ext.alloc (Below.refl _ _) _)) (row11_cells w7 _ [0, 1, 2] _ _ rfl rfl rfl (by decide))).mono ?_; rintro e w8 ⟨rfl, hb0⟩; have hb := Ext.trans (Ext.alloc (Below.refl _ _) _) hb0; have S8 := Lib.hid (S7.out.call hb); clear hb hb0))
    | (go_at_call 11; have _t := S6; go_must (refine (IntsY _ _ _ _ _ _ [1, 0, 2] _ (((S6.out.rdx 2 rfl)).ext (Ext.alloc (Below.refl _ _) _)) (row11_cells w6 _ [1, 0, 2] _ _ rfl rfl rfl (by decide))).mono ?_; rintro e w7 ⟨rfl, hb0⟩; have hb := Ext.trans (Ext.alloc (Below.refl _ _) _) hb0; have S7 := Lib.hid (S6.out.call hb); clear hb hb0))
    | (go_at_call 9; go_must (refine (e11TurnsG _ _ (row11_cells w5 _ [1, 2, 0] _ _ rfl rfl rfl (by decide))).mono ?_; rintro e w6 ⟨rfl, hb0⟩; have S6 := Lib.hid ((S5.out.junk (.cells #[.int .i64 1, .int .i64 2, .int .i64 0] 3)).call hb0); clear hb0))
    | (go_at_call 8; have _t := S4; go_must (refine (e11Nth6 _).mono ?_; rintro e w5 ⟨q5, c5, rfl, hb⟩; have S5 := Lib.hid (S4.out.call hb); clear hb))
    | (go_at_call 8; have _t := S3; go_must (refine (e11Nth3 _).mono ?_; rintro e w4 ⟨q4, c4, rfl, Z⟩; have S4 := Lib.hid (S3.out.comp Z); clear Z))
    | (go_at_call 8; have _t := S2; go_must (refine (e11Nth0 _).mono ?_; rintro e w3 ⟨q3, c3, rfl, Z⟩; have S3 := Lib.hid (S2.out.comp Z); clear Z))
    | (go_at_call 14; have _t := S1; go_must (refine (e11ByG po no co pt nt ct pr nr cr pv nv cv _ (HR.out.ext S1.out.ext) hct hcv).mono ?_; rintro e w2 ⟨q2, c2, rfl, Z⟩; have S2 := Lib.hid (S1.out.comp Z); clear Z))
    | (go_at_call 18; go_must (refine (e11Mk _ _ _ (S0.out.rd 1 rfl (by decide)) (S0.out.rd 0 rfl (by decide))).mono ?_; rintro e w1 ⟨po, no, co, pt, nt, ct, pr, nr, cr, pv, nv, cv, rfl, hr, hct, hcv, hb⟩; have E1 := Lib.hid (Ext.trans S0.out.ext hb); have HR := Lib.hid hr; have S1 := Lib.hid ((Sep.start w1).al #[.slice po no co, .slice pt nt ct, .slice pr nr cr, .slice pv nv cv] 34 w1.heap.size rfl); clear hb hr)))
  go_ret
  exact ⟨rfl, Ext.trans E1.out S11.out.ext⟩
end Go.Proofs.Ythlmcfbadhidbaa
/- Places twice is the order; orders as rows stand (chapter 11), in plain Lean. -/
namespace Go.Proofs.Ythlmcfbadhidbaa
open Go Go.RowKit
theorem nth_set_eq (X : List Int) (i : Nat) (x : Int) (h : i < X.length) : nth (X.set i x) i = x := by
  rw [nth_eq (by rw [List.length_set]; exact h), List.getElem_set, if_pos rfl]
theorem nth_set_ne (X : List Int) {i j : Nat} (x : Int) (h : j < X.length) (hne : i ≠ j) : nth (X.set i x) j = nth X j := by
  rw [nth_eq (by rw [List.length_set]; exact h), List.getElem_set, if_neg hne, nth_eq h]
theorem ord_at {l : List Int} {n i : Nat} (h : OrdP l n) (hi : i < n) : 0 ≤ nth l i ∧ nth l i < n := h.2.2 _ (nth_mem (by rw [h.1]; exact hi))
theorem ord_inj {l : List Int} {n i j : Nat} (h : OrdP l n) (hi : i < n) (hj : j < n) (e : nth l i = nth l j) : i = j := by
  rw [nth_eq (by rw [h.1]; exact hi), nth_eq (by rw [h.1]; exact hj)] at e
  exact (List.getElem_inj h.2.1).1 e
theorem posL_at {l : List Int} {n : Nat} (h : OrdP l n) {X : List Int} (hX : X.length = n) : ∀ k, k ≤ n → ∀ i, i < k → nth (posL l k X) (nth l i).toNat = i
  | 0, _, i, hi => by omega
  | k + 1, hk, i, hi => by
    have b1 := ord_at h (i := i) (by omega)
    have b2 := ord_at h (i := k) (by omega)
    have hl := posL_len l k X
    rw [posL_step]
    by_cases e : i = k
    · subst e
      exact nth_set_eq _ _ _ (by rw [hl, hX]; omega)
    · rw [nth_set_ne _ _ (by rw [hl, hX]; omega) fun h' => e (ord_inj h (by omega) (by omega) (by omega))]
      exact posL_at h hX k (by omega) i (by omega)
theorem places_len (l : List Int) : (placesL l).length = l.length := by unfold placesL; rw [posL_len, List.length_replicate]
theorem places_at {l : List Int} {n : Nat} (h : OrdP l n) {i : Nat} (hi : i < n) : nth (placesL l) (nth l i).toNat = i := by
  unfold placesL
  rw [h.1]
  exact posL_at h (by rw [List.length_replicate]) n (Nat.le_refl _) i hi
/-- each place stands somewhere -/
theorem ord_find {l : List Int} {n : Nat} (h : OrdP l n) {v : Nat} (hv : v < n) : ∃ i, i < n ∧ nth l i = v := by
  obtain ⟨i, hi, e⟩ := List.getElem_of_mem (ord_mem h hv)
  exact ⟨i, by rw [← h.1]; exact hi, by rw [nth_eq hi]; exact e⟩
theorem places_ord {l : List Int} {n : Nat} (h : OrdP l n) : OrdP (placesL l) n := by
  have hlen : (placesL l).length = n := by rw [places_len, h.1]
  refine ⟨hlen, ?_, fun x hx => ?_⟩
  · rw [List.nodup_iff_pairwise_ne, List.pairwise_iff_getElem]
    intro i j hi hj hij e
    rw [hlen] at hi hj
    obtain ⟨a, ha, ea⟩ := ord_find h hi
    obtain ⟨b, hb, eb⟩ := ord_find h hj
    have h1 := places_at h ha
    have h2 := places_at h hb
    rw [ea, Int.toNat_natCast, nth_eq (by omega)] at h1
    rw [eb, Int.toNat_natCast, nth_eq (by omega)] at h2
    have : a = b := by omega
    subst this
    omega
  · obtain ⟨i, hi, rfl⟩ := List.getElem_of_mem hx
    rw [hlen] at hi
    obtain ⟨a, ha, ea⟩ := ord_find h hi
    have h1 := places_at h ha
    rw [ea, Int.toNat_natCast, nth_eq (by omega)] at h1
    omega
theorem places_twice {l : List Int} {n : Nat} (h : OrdP l n) : placesL (placesL l) = l := by
  have hp := places_ord h
  have e1 : (placesL (placesL l)).length = l.length := by rw [places_len, places_len]
  refine List.ext_getElem e1 fun i h1 h2 => ?_
  have hi : i < n := by rw [← h.1]; exact h2
  have b := ord_at h hi
  have h3 := places_at h hi
  have h4 := places_at hp (i := (nth l i).toNat) (by omega)
  rw [h3, Int.toNat_natCast, nth_eq h1] at h4
  rw [h4, nth_eq h2]
  rw [nth_eq h2] at b
  omega
/-- places as rows order them: the number of their ways never rises -/
theorem byL_ord {O R : List Int} {n : Nat} (hw : ∀ v, v < n → 0 ≤ wayN O R v ∧ wayN O R v ≤ 4000) : OrdP (byL O R n) n := by
  have hr := byP_rises O R n 4001
  have hmem : ∀ x, x ∈ byP O R n 4001 ↔ x ∈ waysP O R n := fun x => by
    rw [waysP_mem, byP_mem]
    constructor
    · rintro ⟨v, h, rfl, _⟩; exact ⟨v, h, rfl⟩
    · rintro ⟨v, h, rfl⟩
      have := hw v h
      exact ⟨v, h, rfl, by omega, by omega⟩
  have hnd : (byP O R n 4001).Nodup := hr.imp fun {a b} h e => by subst e; rw [stoW.irrefl] at h; cases h
  have hlen : (byP O R n 4001).length = n := by
    have h1 := hnd.length_le_of_subset (l₂ := waysP O R n) fun x hx => (hmem x).1 hx
    have h2 := (waysP_nodup O R n).length_le_of_subset (l₂ := byP O R n 4001) fun x hx => (hmem x).2 hx
    rw [waysP_len] at h1 h2
    omega
  refine ⟨by unfold byL; rw [List.length_map, hlen], ?_, fun x hx => ?_⟩
  · unfold byL
    refine List.Pairwise.map _ (fun a b h => h) (R := fun a b => a.1 ≠ b.1) ?_
    rw [List.nodup_iff_pairwise_ne] at hnd
    refine hnd.imp_of_mem fun {a b} ha hb hne e => ?_
    obtain ⟨v, _, rfl⟩ := waysP_mem.1 ((hmem a).1 ha)
    obtain ⟨u, _, rfl⟩ := waysP_mem.1 ((hmem b).1 hb)
    simp only at e
    have : v = u := by omega
    subst this
    exact hne rfl
  · unfold byL at hx
    obtain ⟨y, hy, rfl⟩ := List.mem_map.1 hx
    obtain ⟨v, hv, rfl⟩ := waysP_mem.1 ((hmem y).1 hy)
    simp only
    omega
theorem byL_falls {O R : List Int} {n i : Nat} (h : i + 1 < (byL O R n).length) : ∃ v u : Nat, v < n ∧ u < n ∧ nth (byL O R n) i = v ∧ nth (byL O R n) (i + 1) = u ∧ (wayN O R u < wayN O R v ∨ (wayN O R v = wayN O R u ∧ v < u)) := by
  have hl : i + 1 < (byP O R n 4001).length := by unfold byL at h; rwa [List.length_map] at h
  have hr := List.pairwise_iff_getElem.1 (byP_rises O R n 4001) i (i + 1) (by omega) hl (by omega)
  obtain ⟨v, hv, e1, _⟩ := byP_mem.1 (List.getElem_mem (show i < (byP O R n 4001).length by omega))
  obtain ⟨u, hu, e2, _⟩ := byP_mem.1 (List.getElem_mem hl)
  rw [e1, e2, ltW_iff] at hr
  refine ⟨v, u, hv, hu, ?_, ?_, ?_⟩
  · unfold byL
    rw [nth_eq (by rw [List.length_map]; omega), List.getElem_map, e1]
  · unfold byL
    rw [nth_eq (by rw [List.length_map]; omega), List.getElem_map, e2]
  · simp only at hr; omega
end Go.Proofs.Ythlmcfbadhidbaa
/- The law OrderBack: Places twice is the order. -/
namespace Go.Proofs.Ythlmcfbadhidbaa
open Go Go.RowKit
set_option maxRecDepth 100000 in
set_option maxHeartbeats 8000000 in
theorem lawBack11 (p : Option Addr) (m c : Nat) (l : List Int) (w : World) (hl : Rd w 1 p m (encI l)) : Calls Try.prog 6 #[.slice p m c] w fun e w' => e = .returned (.bool true) ∧ Ext w w' := by
  have S0 := Lib.hid (Sep.start w)
  by_cases h1 : 100 < m
  · have c1 : decide ((100:Int) < m) = true := by simp; omega
    clear h1 hl
    go_enter Try.func6, Try.ntmps6
    go_wp2
    go_ret
    exact ⟨rfl, Below.refl _ _⟩
  · have c1 : decide ((100:Int) < m) = false := by simp; omega
    have hm : m ≤ 100 := by omega
    have L1 := hl.nI
    have HL := Lib.hid hl
    have p1 := hl.ptr
    have hN : isN l (m:Int) = ordB l := by unfold isN; rw [← L1, decide_eq_true rfl, Bool.true_and]
    have HA := Lib.hid (fun W (h : Ext w W) => PlacesG p m c l W (hl.ext h) (by omega))
    have HI := Lib.hid (fun W (h : Ext w W) => OrdIsG p m c l m W (hl.ext h) (by omega))
    rw [hN] at HI
    unfold plV' plC at HA
    clear h1
    cases ho : ordB l with
    | false =>
      rw [ho] at HI HA
      rw [if_neg (by simp), if_neg (by simp)] at HA
      have HA : Hid (∀ W, Ext w W → Calls Try.prog 17 #[.slice p m c] W fun e w' => ∃ q c', e = .returned (.tuple #[.slice q 0 c', .int .i64 1]) ∧ Sep W w' [.own 3 1 q 0 c' []]) := HA
      clear hl hN ho L1
      go_enter Try.func6, Try.ntmps6
      go_wp2_with (first
        | (go_at_call 10; go_must (refine (HI.out _ SZ.out.ext).mono ?_; rintro e w3 ⟨rfl, hb⟩; have S3 := Lib.hid (SZ.out.call hb); clear hb))
        | (go_at_call 7; go_must (refine (Orders11 _).mono ?_; rintro e wz ⟨rfl, hb⟩; have SZ := Lib.hid (S1.out.call hb); clear hb)) | (go_at_call 17; have _t := S0; go_must (refine (HA.out _ S0.out.ext).mono ?_; rintro e w1 ⟨q1, c1, rfl, Z⟩; have S1 := Lib.hid (S0.out.comp Z); clear Z)))
      go_ret
      exact ⟨rfl, S3.out.ext⟩
    | true =>
      rw [ho] at HI HA
      rw [if_pos rfl, if_pos rfl] at HA
      have hO : OrdP l m := by have := ordB_iff.1 ho; rw [← L1] at this; exact this
      have hP := places_ord hO
      have hPB : ordB (placesL l) = true := ordB_iff.2 (by rw [hP.1]; exact hP)
      have hT := places_twice hO
      have HAT := Lib.hid (fun i (hi : i < m) => places_at hO hi)
      have HLB := Lib.hid (fun i (hi : i < m) => ord_at hO hi)
      have hPl := hP.1
      rw [hPl] at HA
      have HB : Hid (∀ W q d, Rd W 1 q m (encI (placesL l)) → Calls Try.prog 17 #[.slice q m d] W fun e w' => ∃ q c', e = .returned (.tuple #[.slice q m c', .int .i64 0]) ∧ Sep W w' [.own 3 1 q m c' (encI l)]) := fun W q d hr => by
        have := PlacesG q m d (placesL l) W hr (by omega)
        unfold plV' plC at this
        rw [hPB, if_pos rfl, if_pos rfl, hT, ← L1] at this
        exact this
      have HIA : Hid (∀ W q d, Rd W 1 q m (encI (placesL l)) → Calls Try.prog 10 #[.slice q m d, .int .i64 m] W fun e w' => e = .returned (.bool true) ∧ Ext W w') := fun W q d hr => by
        have := OrdIsG q m d (placesL l) m W hr (by omega)
        have e : isN (placesL l) (m:Int) = true := by unfold isN; rw [hPl, decide_eq_true rfl, hPB]; rfl
        rw [e] at this
        exact this
      generalize placesL l = A at *
      clear hl hN ho hO hP hPB hT hPl HI L1
      go_enter Try.func6, Try.ntmps6
      go_wp2_with (first | (go_at_call 17; have _t := S1; go_must (refine (HB.out _ _ _ (S1.out.rdx 0 rfl)).mono ?_; rintro e w2 ⟨q2, c2, rfl, Z⟩; have S2 := Lib.hid (S1.out.comp Z); clear Z)) | (go_at_call 17; have _t := S0; go_must (refine (HA.out _ S0.out.ext).mono ?_; rintro e w1 ⟨q1, c1, rfl, Z⟩; have S1 := Lib.hid (S0.out.comp Z); clear Z)))
      go_loopw [7] (fun i wr => ∃ k : Nat, k ≤ m ∧ i = .int .i64 k ∧ Sep w wr [.own 3 1 q2 m c2 (encI l), .own 3 1 q1 m c1 (encI A)]) (fun i _ => m - (intOf i).toNat)
      case atStart => exact ⟨0, Nat.zero_le _, rfl, S2.out⟩
      case round =>
        clear S0 S1 S2 HA HB
        obtain ⟨k, hk, rfl, S⟩ := hrel
        have pq := (S.rdx 1 rfl).ptr
        by_cases hlt : k < m
        · have g1 := S.ext.cell (HL.out.cI hlt)
          obtain ⟨b1, b2⟩ := HLB.out k hlt
          obtain ⟨b, hb⟩ : ∃ b : Nat, nth l k = (b:Int) := ⟨(nth l k).toNat, by omega⟩
          have hat := HAT.out k hlt
          rw [hb, Int.toNat_natCast] at hat
          have g2 := (S.rdx 1 rfl).cI (k := b) (by omega)
          rw [hat] at g2
          rw [hb] at g1 b2
          have d1 : (0:Int) ≤ k := by omega
          have d2 : (k:Int) < m := by omega
          have d3 : decide ((b:Int) < 0) = false := by simp
          have d6 : ((m:Int) != (m:Int)) = false := by simp
          have d7 : ((k:Int) != (k:Int)) = false := by simp
          have d8 : (0:Int) ≤ b := by omega
          have d4 : decide ((m:Int) ≤ b) = false := by simp; omega
          have d5 : decide (m ≤ b) = false := by simp; omega
          clear hb hat b1
          have SH := Lib.hid S; clear S
          go_wp2
          go_roundw
          case rel => exact ⟨k + 1, by omega, by go_num, SH.out⟩
          case measure => simp [intOf]; omega
        · obtain rfl : k = m := by omega
          have SH := Lib.hid S; clear S
          go_wp2_with (first
            | (go_at_call 10; go_must (refine (HIA.out _ _ _ (S5.out.rdx 1 rfl)).mono ?_; rintro e w6 ⟨rfl, hb⟩; have S6 := Lib.hid (S5.out.call hb); clear hb))
            | (go_at_call 11; go_must (refine (IntsY _ _ _ _ _ _ l _ (SZ.out.rdx 0 rfl) (HL.out.ext SZ.out.ext)).mono ?_; rintro e w5 ⟨rfl, hb⟩; have S5 := Lib.hid (SZ.out.call hb); clear hb))
            | (go_at_call 7; go_must (refine (Orders11 _).mono ?_; rintro e wz ⟨rfl, hb⟩; have SZ := Lib.hid (SH.out.call hb); clear hb)))
          go_ret
          exact ⟨rfl, S6.out.ext⟩
end Go.Proofs.Ythlmcfbadhidbaa
/- An argument that is a graph, opened: what its slices read. -/
namespace Go.Proofs.Ythlmcfbadhidbaa
open Go Go.RowKit Go.ChangeShapes Go.WideShapes Go.ChangeAt Go.Deep Go.Joins
theorem exists_list {α : Type} [Inhabited α] {n : Nat} {p : Nat → α → Prop} (h : ∀ i, i < n → ∃ x, p i x) : ∃ l : List α, l.length = n ∧ ∀ i, i < n → p i (nth l i) := by
  induction n with
  | zero => exact ⟨[], rfl, fun i hi => by omega⟩
  | succ n ih =>
    obtain ⟨l, hl, hp⟩ := ih fun i hi => h i (by omega)
    obtain ⟨x, hx⟩ := h n (by omega)
    refine ⟨l ++ [x], by simp [hl], fun i hi => ?_⟩
    by_cases e : i = n
    · subst e
      have : nth (l ++ [x]) i = x := by subst hl; exact nth_append_new _ _
      rw [this]; exact hx
    · rw [nth_append_left _ _ _ (by omega)]; exact hp i (by omega)
theorem spot_of_cell {w : World} {a : Addr} {v : Value} (h : w.cell? a = some v) : a = ⟨a.block, a.off, none⟩ := by
  unfold World.cell? at h
  split at h
  · split at h
    · cases h
    · rename_i hs
      obtain ⟨b, o, s⟩ := a
      cases s with
      | none => rfl
      | some s => simp at hs
  · cases h
theorem Rd.of_cells {w : World} {size n : Nat} {a : Addr} {xs : List Value} (h0 : 0 < size) (hlen : xs.length = n * size) (hs : n ≤ 9223372036854775807) (hc : ∀ j, j < n * size → w.cell? (a.add j) = some (xs.getD j undef)) : Rd w size (some a) n xs := by
  rcases Nat.eq_zero_or_pos n with hn | hn
  · subst hn
    have : xs = [] := List.eq_nil_of_length_eq_zero (by simpa using hlen)
    subst this
    exact Rd.nil _ _ _
  · have h1 := hc 0 (Nat.mul_pos hn h0)
    have ha := spot_of_cell (a := a) (by simpa [Addr.add] using h1)
    refine ⟨hlen, .inr ⟨_, _, by rw [ha]⟩, hs, fun j hj => ?_⟩
    rw [← hc j hj]
    congr 1
    rw [ha, adr_some]
    by_cases hj0 : j = 0
    · subst hj0; simp [Addr.add]
    · simp [Addr.add, hj0]
section
variable {H : Type} {enc : TypeId × Value → H} {w : World} {base : Nat} {spare : Nat → Bool} {held : Bool}
theorem open_slice_fields {P : Program} {t e : TypeId} {fs : Array Field} {fuel : Nat} {cs : List Value} {x : DataW H × List MemPlace} (ht : P.underlying t = some (.slice e)) (he : P.underlying e = some (.struct fs))
    (hone : oneCellFields P fs = true) (hC : P.cellsOf e = fs.size) (h : DataW.trod enc P w base spare held fuel t cs = some x) :
    (cs = [.slice none 0 0]) ∨
    ∃ (a : Addr) (len cap : Nat), cs = [.slice (some a) len cap] ∧ len ≤ cap ∧ cap ≤ maxLen ∧
      ∀ i, i < len → ∀ (j : Nat) (f : Field), fs[j]? = some f → ∃ (v : Value) (y : DataW H × List MemPlace) (n : Nat), w.cell? (a.add (i * fs.size + j)) = some v ∧ DataW.trod enc P w base spare held n f.type [v] = some y := by
  rcases open_slice ht h with h0 | ⟨a, len, cap, m, n, D, Pl, hcs, hb, hl, hm, hmm, hx, hi⟩
  · exact .inl h0.1
  · refine .inr ⟨a, len, cap, hcs, hl, hm, fun i hil j f hj => ?_⟩
    obtain ⟨cs', hc, ht'⟩ := hi i (by rw [hmm]; split <;> omega)
    rw [hC] at hc
    obtain ⟨ys, n', hn', hy, hlen, hyl, hf⟩ := DataW.trod_struct he ht'
    obtain ⟨_, hcl, hat⟩ := World.cells?_some hc
    obtain ⟨ho, hk⟩ := hone_of hone j f hj
    have hjl : j < fs.size := (Array.getElem?_eq_some_iff.1 hj).1
    have hcell := hat j hjl
    have hv : cs'[j]? = some (cs'[j]'(by omega)) := List.getElem?_eq_getElem (by omega)
    have h1 := hf j f hj
    rw [ho, hk] at h1
    have hone' : (cs'.drop j).take 1 = [cs'[j]'(by omega)] := by
      rw [List.drop_eq_getElem_cons (by omega)]
      rfl
    rw [hone'] at h1
    have hys : ys[j]? = some (ys[j]'(by omega)) := List.getElem?_eq_getElem (by omega)
    refine ⟨_, _, _, ?_, h1.trans hys⟩
    rw [← Go.Deep.add_add, hcell, hv]
theorem open_edges {t : TypeId} {fuel : Nat} {v : Value} {x : DataW H × List MemPlace} (ht : Try.prog.underlying t = some (.slice 44)) (h : DataW.trod enc Try.prog w base spare held fuel t [v] = some x) :
    ∃ p n c E, v = .slice p n c ∧ Rd w 2 p n (encE E) := by
  rcases open_slice_fields ht Try.underlying44 (by kernel_rfl) (by kernel_rfl) h with h0 | ⟨a, len, cap, hcs, hl, hm, hi⟩
  · simp at h0; exact ⟨none, 0, 0, [], h0, Rd.nil _ _ _⟩
  · simp at hcs
    have hl2 : len ≤ 9223372036854775807 := by unfold maxLen at hm; omega
    have hE : ∀ i, i < len → ∃ e : Int × Int, w.cell? (a.add (i * 2)) = some (.int .i64 e.1) ∧ w.cell? (a.add (i * 2 + 1)) = some (.int .i64 e.2) := by
      intro i hil
      obtain ⟨v1, y1, n1, c1, t1⟩ := hi i hil 0 _ rfl
      obtain ⟨v2, y2, n2, c2, t2⟩ := hi i hil 1 _ rfl
      obtain ⟨k1, e1, _⟩ := DataW.trod_int Try.underlying3 t1
      obtain ⟨k2, e2, _⟩ := DataW.trod_int Try.underlying3 t2
      simp at e1 e2
      subst e1 e2
      exact ⟨(k1, k2), c1, c2⟩
    obtain ⟨E, hEl, hEc⟩ := exists_list hE
    refine ⟨some a, len, cap, E, hcs, Rd.of_cells (by decide) (by rw [encE_len, hEl]) hl2 fun j hj => ?_⟩
    have hd : j / 2 < len := by omega
    obtain ⟨g1, g2⟩ := encE_get E (j / 2) (by omega)
    obtain ⟨h1, h2⟩ := hEc (j / 2) hd
    have hm2 : j = j / 2 * 2 ∨ j = j / 2 * 2 + 1 := by omega
    rcases hm2 with e | e
    · rw [e, g1]; exact h1
    · rw [e, g2]; exact h2
theorem open_texts {t : TypeId} {fuel : Nat} {v : Value} {x : DataW H × List MemPlace} (ht : Try.prog.underlying t = some (.slice 9)) (h : DataW.trod enc Try.prog w base spare held fuel t [v] = some x) :
    ∃ p n c l, v = .slice p n c ∧ Rd w 1 p n (encS l) := by
  rcases open_slice ht h with h0 | ⟨a, len, cap, m, n, D, Pl, hcs, hb, hl, hm, hmm, hx, hi⟩
  · obtain ⟨h0, _⟩ := h0; simp at h0; exact ⟨none, 0, 0, [], h0, Rd.nil _ _ _⟩
  · simp at hcs
    have hl2 : len ≤ 9223372036854775807 := by unfold maxLen at hm; omega
    have hc1 : Try.prog.cellsOf 9 = 1 := by kernel_rfl
    rw [hc1] at hi
    have hS : ∀ i, i < len → ∃ s : ByteArray, w.cell? (a.add i) = some (.string s) := by
      intro i hil
      obtain ⟨cs', hc, ht'⟩ := hi i (by rw [hmm]; split <;> omega)
      obtain ⟨s, e1, _⟩ := DataW.trod_string Try.underlying9 ht'
      obtain ⟨_, hcl, hat⟩ := World.cells?_some hc
      have := hat 0 (by decide)
      rw [Go.Deep.add_add, Nat.mul_one, Nat.add_zero, e1] at this
      exact ⟨s, this⟩
    obtain ⟨l, hll, hlc⟩ := exists_list hS
    refine ⟨some a, len, cap, l, hcs, Rd.of_cells (by decide) (by rw [encS_len, hll, Nat.mul_one]) hl2 fun j hj => ?_⟩
    rw [encS_get l j (by omega)]
    exact hlc j (by omega)
theorem open_rows {t : TypeId} {fuel : Nat} {v : Value} {x : DataW H × List MemPlace} (ht : Try.prog.underlying t = some (.slice 81)) (h : DataW.trod enc Try.prog w base spare held fuel t [v] = some x) :
    ∃ p n c hs W, v = .slice p n c ∧ RdW w p n hs W := by
  rcases open_slice ht h with h0 | ⟨a, len, cap, m, n, D, Pl, hcs, hb, hl, hm, hmm, hx, hi⟩
  · obtain ⟨h0, _⟩ := h0; simp at h0; exact ⟨none, 0, 0, [], [], h0, rfl, Rd.nil _ _ _, fun j hj => by omega⟩
  · simp at hcs
    have hl2 : len ≤ 9223372036854775807 := by unfold maxLen at hm; omega
    have hc1 : Try.prog.cellsOf 81 = 1 := by kernel_rfl
    rw [hc1] at hi
    have hS : ∀ i, i < len → ∃ q : Hd × List ByteArray, w.cell? (a.add i) = some (.slice q.1.p q.1.n q.1.c) ∧ Rd w 1 q.1.p q.1.n (encS q.2) := by
      intro i hil
      obtain ⟨cs', hc, ht'⟩ := hi i (by rw [hmm]; split <;> omega)
      obtain ⟨_, hcl, hat⟩ := World.cells?_some hc
      match cs', hcl with
      | [u], _ =>
        obtain ⟨p, n', c', l, e1, hr⟩ := open_texts Try.underlying81 ht'
        have := hat 0 (by decide)
        rw [Go.Deep.add_add, Nat.mul_one, Nat.add_zero, e1] at this
        exact ⟨(⟨p, n', c'⟩, l), this, hr⟩
    obtain ⟨l, hll, hlc⟩ := exists_list hS
    have hm : ∀ i, i < len → nth (l.map (·.1)) i = (nth l i).1 ∧ nth (l.map (·.2)) i = (nth l i).2 := fun i hil => by
      rw [nth_eq (l := l.map (·.1)) (by rw [List.length_map]; omega), nth_eq (l := l.map (·.2)) (by rw [List.length_map]; omega), nth_eq (l := l) (by omega)]; simp
    refine ⟨some a, len, cap, l.map (·.1), l.map (·.2), hcs, by simp, Rd.of_cells (by decide) (by rw [encH_len, List.length_map, hll, Nat.mul_one]) hl2 fun j hj => ?_, fun j hj => ?_⟩
    · rw [encH_get _ j (by simp; omega), (hm j (by omega)).1]
      exact (hlc j (by omega)).1
    · rw [(hm j hj).1, (hm j hj).2]
      exact (hlc j hj).2
set_option maxRecDepth 100000 in
/-- a graph by value -/
theorem open_graph {r : Reach} {b0 : Nat} {v : Value} {d : DataW H} {p : List MemPlace} (hv : Value.okWide Try.prog w r b0 48 v) (h : DataW.Trod enc Try.prog w base spare held 48 v d p) :
    ∃ N pe ne ce pw nw cw E hs W, v = .agg #[.int .i64 N, .slice pe ne ce, .slice pw nw cw] ∧ Rd w 2 pe ne (encE E) ∧ RdW w pw nw hs W := by
  obtain ⟨v0, v1, v2, y0, y1, y2, n, rfl, _, _, t0, t1, t2⟩ := open_agg3 Try.underlying48 (by kernel_rfl) (by kernel_rfl) hv h
  obtain ⟨N, e0, _⟩ := DataW.trod_int Try.underlying3 t0
  simp at e0
  subst e0
  obtain ⟨pe, ne, ce, E, rfl, hE⟩ := open_edges Try.underlying45 t1
  obtain ⟨pw, nw, cw, hs, W, rfl, hW⟩ := open_rows Try.underlying46 t2
  exact ⟨N, pe, ne, ce, pw, nw, cw, E, hs, W, rfl, hE, hW⟩
end
end Go.Proofs.Ythlmcfbadhidbaa
/- The last step of a law's row: the result is true, the arguments read as they did, where the call only made memory. -/
namespace Go.Proofs.Ythlmcfbadhidbaa
open Go Go.RowKit Go.WideShapes Go.ChangeShapes
theorem own : ownKnob Try.prog.godebug = none := by kernel_rfl
theorem laidOut : laidOutB Try.prog = true := by kernel_rfl
set_option maxRecDepth 100000 in
/-- true comes back, the arguments stay: what is left to show is their reading -/
theorem law_post {H : Type} {enc : TypeId × Value → H} {f : Func} {s : ChangeSpec} {apart fresh handsOn again : Bool} {W W' : World} {args : Array Value} {ds : List (DataW H)} {before : List MemPlace}
    (hW : DataW.Whole enc Try.prog f.params.toList s.vars apart W args.toList ds [] before) (ht : f.resultTypes = #[4]) (hvars : s.vars = [])
    (hfn : s.fn H (ds ++ []) = { results := [.lit (.bool true)], args := ds })
    (hargs : ∀ sp : Nat → Bool, (∀ p ∈ before, sp p.block = true) → DataW.TrodAll enc Try.prog W' 0 sp true f.params.toList args.toList ds before)
    (hb : Below W.heap.size W W') : s.post enc Try.prog f apart fresh handsOn again W args (.bool true) W' := by
  have lits : ∀ (b : Nat) (sp : Nat → Bool) (hd : Bool), DataW.TrodAll enc Try.prog W' b sp hd f.resultTypes.toList ((Value.bool true).resultList f.resultTypes.size) (s.fn H (ds ++ [])).results [] := by
    intro b sp hd
    rw [hfn, ht]
    exact trodAll_mk1 (shut_bool Try.underlying4 true)
  have hold : ∀ sp : Nat → Bool, (∀ p ∈ before, sp p.block = true) → DataW.TrodAll enc Try.prog W' 0 sp true f.params.toList args.toList (s.fn H (ds ++ [])).args before := by
    intro sp hsp
    rw [hfn]; exact hargs sp hsp
  have hv : ∀ sp : Nat → Bool, DataW.TrodVars enc Try.prog W' sp s.vars (s.fn H (ds ++ [])).vars [] := by
    intro sp; rw [hfn, hvars]; rfl
  have hin : ∀ p ∈ before, p.block < W.heap.size := fun p hp => hW.lt p hp
  have same : before = before ++ [] := by simp
  refine ⟨ds, [], before, [], before, [], hW, lits _ _ _, hold _ (fun p hp => by simpa using hin p hp), hv _, World.keptBut_mono (fun p hp => ⟨hp, .inr (by simpa using hp)⟩) (hb.frame (· ∈ before)), fun _ => ?_⟩
  have hW2 := hW
  obtain ⟨_, _, _, _, _, hz, hn⟩ := hW2
  refine ⟨ok_one (by rw [ht]) rfl (okWide_bool_mk Try.underlying4 _), _, _, ([] ++ before) ++ [], ⟨[] ++ before, [], trodAll_append (hold _ (fun _ _ => rfl)) (lits _ _ _), hv _, rfl, ?_, ?_⟩, ?_⟩
  · intro b off hp
    have hp2 : MemPlace.cell b off ∈ before := by simpa using hp
    rw [hb.frozen (hin _ hp2)]
    exact hz b off hp2
  · intro ha
    simpa using hn ha
  · intro p hp _
    simpa using hp
/-- an argument's reading, carried behind the call -/
theorem stays {H : Type} {enc : TypeId × Value → H} {W W' : World} {t : TypeId} {v : Value} {d : DataW H} {ps : List MemPlace} (hr : Try.prog.readableRec t = true) (hrow : t < Try.prog.types.size) (h : DataW.Trod enc Try.prog W 0 (fun _ => true) true t v d ps)
    (hb : Below W.heap.size W W') (hlt : ∀ x ∈ ps, x.block < W.heap.size) {sp : Nat → Bool} (hsp : ∀ x ∈ ps, sp x.block = true) : DataW.Trod enc Try.prog W' 0 sp true t v d ps :=
  WideElems.Trod_stays laidOut hr hrow h (fun x hx => hb.same (hlt x hx)) hsp
/-- all readings, one by one -/
theorem trodAll_turn {H : Type} {enc : TypeId × Value → H} {P : Program} {W W' : World} {sp sp' : Nat → Bool} {hd : Bool} (ts : List TypeId) : ∀ {vs : List Value} {ds : List (DataW H)} {ps : List MemPlace}, DataW.TrodAll enc P W 0 sp hd ts vs ds ps →
    (∀ t ∈ ts, ∀ v d p, (∀ x ∈ p, x ∈ ps) → DataW.Trod enc P W 0 sp hd t v d p → DataW.Trod enc P W' 0 sp' hd t v d p) → DataW.TrodAll enc P W' 0 sp' hd ts vs ds ps := by
  induction ts with
  | nil =>
    intro vs ds ps h _
    obtain ⟨rfl, rfl, rfl⟩ := trodAll_nil h
    exact trodAll_mk0
  | cons t ts ih =>
    intro vs ds ps h hk
    obtain ⟨v, vs', d, ds', p, q, rfl, rfl, rfl, h1, h2⟩ := trodAll_cons h
    exact trodAll_cons_mk (hk t (by simp) v d p (fun x hx => by simp [hx]) h1) (ih h2 fun t' ht' v' d' p' hp' h' => hk t' (by simp [ht']) v' d' p' (fun x hx => by simp [hp' x hx]) h')
/-- all arguments' reading, carried behind the call -/
theorem stays_all {H : Type} {enc : TypeId × Value → H} {W W' : World} {ts : List TypeId} {vs : List Value} {ds : List (DataW H)} {ps : List MemPlace} (hr : ts.all (fun t => Try.prog.readableRec t && decide (t < Try.prog.types.size)) = true)
    (h : DataW.TrodAll enc Try.prog W 0 (fun _ => true) true ts vs ds ps) (hb : Below W.heap.size W W') (hlt : ∀ x ∈ ps, x.block < W.heap.size) {sp : Nat → Bool} (hsp : ∀ x ∈ ps, sp x.block = true) : DataW.TrodAll enc Try.prog W' 0 sp true ts vs ds ps :=
  trodAll_turn ts h fun t ht v d p hp h1 => by
    have h2 := List.all_eq_true.1 hr t ht
    rw [Bool.and_eq_true, decide_eq_true_eq] at h2
    exact stays h2.1 h2.2 h1 hb (fun x hx => hlt x (hp x hx)) (fun x hx => hsp x (hp x hx))
end Go.Proofs.Ythlmcfbadhidbaa
/- Arguments that are rows of numbers, of texts, of postings: what they read. -/
namespace Go.Proofs.Ythlmcfbadhidbaa
open Go Go.RowKit Go.ChangeShapes Go.WideShapes Go.ChangeAt Go.Deep Go.Joins
section
variable {H : Type} {enc : TypeId × Value → H} {w : World} {base : Nat} {spare : Nat → Bool} {held : Bool}
theorem trod_ints {t : TypeId} {fuel : Nat} {v : Value} {x : DataW H × List MemPlace} (ht : Try.prog.underlying t = some (.slice 3)) (h : DataW.trod enc Try.prog w base spare held fuel t [v] = some x) :
    ∃ p n c l, v = .slice p n c ∧ n ≤ c ∧ Rd w 1 p n (encI l) ∧ ∀ x ∈ l, I64 x := by
  rcases open_slice ht h with h0 | ⟨a, len, cap, m, n, D, Pl, hcs, hb, hl, hm, hmm, hx, hi⟩
  · obtain ⟨h0, _⟩ := h0; simp at h0; exact ⟨none, 0, 0, [], h0, Nat.le_refl _, Rd.nil _ _ _, fun x hx => nomatch hx⟩
  · simp at hcs
    have hl2 : len ≤ 9223372036854775807 := by unfold maxLen at hm; omega
    have hc1 : Try.prog.cellsOf 3 = 1 := by kernel_rfl
    rw [hc1] at hi
    have hS : ∀ i, i < len → ∃ s : Int, w.cell? (a.add i) = some (.int .i64 s) ∧ I64 s := by
      intro i hil
      obtain ⟨cs', hc, ht'⟩ := hi i (by rw [hmm]; split <;> omega)
      obtain ⟨s, e1, _, hw⟩ := DataW.trod_int Try.underlying3 ht'
      obtain ⟨_, hcl, hat⟩ := World.cells?_some hc
      have := hat 0 (by decide)
      rw [Go.Deep.add_add, Nat.mul_one, Nat.add_zero, e1] at this
      exact ⟨s, this, hw⟩
    obtain ⟨l, hll, hlc⟩ := exists_list hS
    refine ⟨some a, len, cap, l, hcs, hl, Rd.of_cells (by decide) (by rw [encI_len, hll, Nat.mul_one]) hl2 fun j hj => ?_, fun x hx => ?_⟩
    · rw [encI_get l j (by omega)]
      exact (hlc j (by omega)).1
    · obtain ⟨j, hj, rfl⟩ := List.mem_iff_getElem.1 hx
      rw [← nth_eq hj]
      exact (hlc j (by omega)).2
theorem trod_texts {t : TypeId} {fuel : Nat} {v : Value} {x : DataW H × List MemPlace} (ht : Try.prog.underlying t = some (.slice 9)) (h : DataW.trod enc Try.prog w base spare held fuel t [v] = some x) :
    ∃ p n c l, v = .slice p n c ∧ n ≤ c ∧ Rd w 1 p n (encS l) := by
  obtain ⟨p, n, c, l, rfl, hr⟩ := open_texts ht h
  refine ⟨p, n, c, l, rfl, ?_, hr⟩
  rcases open_slice ht h with h0 | ⟨a, len, cap, m, n', D, Pl, hcs, hb, hl, _⟩
  · obtain ⟨h0, _⟩ := h0; simp at h0; omega
  · simp at hcs; omega
set_option maxRecDepth 100000 in
theorem open_top {t e : TypeId} {r : Reach} {b0 : Nat} {v : Value} {d : DataW H} {p : List MemPlace} (ht : Try.prog.underlying t = some (.slice e)) (hv : Value.okWide Try.prog w r b0 t v) (h : DataW.Trod enc Try.prog w base spare held t v d p) :
    ∃ fuel, DataW.trod enc Try.prog w base spare held fuel t [v] = some (d, p) := by
  obtain ⟨a, n, c, rfl⟩ := okWide_slice ht hv
  exact h
set_option maxRecDepth 100000 in
theorem open_introw {r : Reach} {b0 : Nat} {v : Value} {d : DataW H} {p : List MemPlace} (hv : Value.okWide Try.prog w r b0 23 v) (h : DataW.Trod enc Try.prog w base spare held 23 v d p) :
    ∃ p n c l, v = .slice p n c ∧ n ≤ c ∧ Rd w 1 p n (encI l) ∧ ∀ x ∈ l, I64 x := by
  obtain ⟨f, hf⟩ := open_top Try.underlying23 hv h
  exact trod_ints Try.underlying23 hf
set_option maxRecDepth 100000 in
theorem open_textrow {r : Reach} {b0 : Nat} {v : Value} {d : DataW H} {p : List MemPlace} (hv : Value.okWide Try.prog w r b0 81 v) (h : DataW.Trod enc Try.prog w base spare held 81 v d p) :
    ∃ p n c l, v = .slice p n c ∧ n ≤ c ∧ Rd w 1 p n (encS l) := by
  obtain ⟨f, hf⟩ := open_top Try.underlying81 hv h
  exact trod_texts Try.underlying81 hf
end
end Go.Proofs.Ythlmcfbadhidbaa
/- The law OrderNumbers: an order's number tells it; the one of the number behind is greater. -/
namespace Go.Proofs.Ythlmcfbadhidbaa
open Go Go.RowKit
theorem nthOk_nat {a b : Nat} (ha : a ≤ 12) : nthOk (a:Int) (b:Int) = decide (b < fac a) := by
  unfold nthOk
  rw [decide_eq_true (show (0:Int) ≤ a by omega), decide_eq_true (show (a:Int) ≤ 12 by omega), decide_eq_true (show (0:Int) ≤ b by omega), Int.toNat_natCast]
  simp
theorem nthI_len (a b : Nat) : (nthI a b).length = a := nthA_len _ _ _
theorem Nth_yes (a b : Nat) (W : World) (ha : a ≤ 12) (h : b < fac a) : Calls Try.prog 8 #[.int .i64 a, .int .i64 b] W fun e w' => ∃ q c, e = .returned (.tuple #[.slice q a c, .int .i64 0]) ∧ Sep W w' [.own 3 1 q a c (encI (nthI a b))] := by
  have hb : b < 479001600 := by have := fac_mono (m := a) (n := 12) ha; rw [fac_12] at this; omega
  have ho : nthOk (a:Int) (b:Int) = true := by rw [nthOk_nat ha]; exact decide_eq_true h
  have := NthG a b W (by omega)
  rw [nthV_yes ho, nthC_yes ho, nthI_len] at this
  exact this
theorem Nth_no (a b : Nat) (W : World) (ha : a ≤ 12) (h : ¬ b < fac a) (hb : b ≤ 1000000000) : Calls Try.prog 8 #[.int .i64 a, .int .i64 b] W fun e w' => ∃ q c, e = .returned (.tuple #[.slice q 0 c, .int .i64 1]) ∧ Ext W w' := by
  have ho : nthOk (a:Int) (b:Int) = false := by rw [nthOk_nat ha]; exact decide_eq_false h
  have := NthG a b W (by omega)
  rw [nthV_no ho, nthC_no ho] at this
  exact this.mono fun e w' ⟨q, c, h1, S⟩ => ⟨q, c, h1, S.ext⟩
theorem nthI_ordB {a b : Nat} (h : b < fac a) : ordB (nthI a b) = true := ordB_iff.2 (by rw [nthI_len]; exact nthI_ord h)
theorem turnV_ord {l : List Int} (h : ordB l = true) (hl : l.length ≤ 12) : turnV l = (turnA l : Nat) ∧ turnC l = 0 := by
  unfold turnV turnC
  have h1 : ¬ 12 < l.length := by omega
  rw [if_neg h1, if_pos h, if_neg h1, if_pos h]
  exact ⟨rfl, rfl⟩
set_option maxRecDepth 100000 in
set_option maxHeartbeats 8000000 in
theorem lawNumbers11 (n k : Int) (w : World) : Calls Try.prog 3 #[.int .i64 n, .int .i64 k] w fun e w' => e = .returned (.bool true) ∧ Ext w w' := by
  have S0 := Lib.hid (Sep.start w)
  by_cases h1 : n < 0
  · have c1 : decide (n < 0) = true := by simpa using h1
    clear h1
    go_enter Try.func3, Try.ntmps3
    go_wp2_with (go_at_call 7; go_must (refine (Orders11 _).mono ?_; rintro e wz ⟨rfl, hb⟩; have SZ := Lib.hid (S0.out.call hb); clear hb))
    go_ret
    exact ⟨rfl, SZ.out.ext⟩
  · have c1 : decide (n < 0) = false := by simpa using h1
    by_cases h2 : 12 < n
    · have c2 : decide (12 < n) = true := by simpa using h2
      clear h1 h2
      go_enter Try.func3, Try.ntmps3
      go_wp2_with (go_at_call 7; go_must (refine (Orders11 _).mono ?_; rintro e wz ⟨rfl, hb⟩; have SZ := Lib.hid (S0.out.call hb); clear hb))
      go_ret
      exact ⟨rfl, SZ.out.ext⟩
    · have c2 : decide (12 < n) = false := by simpa using h2
      by_cases h3 : k < 0
      · have c3 : decide (k < 0) = true := by simpa using h3
        clear h1 h2 h3
        go_enter Try.func3, Try.ntmps3
        go_wp2_with (go_at_call 7; go_must (refine (Orders11 _).mono ?_; rintro e wz ⟨rfl, hb⟩; have SZ := Lib.hid (S0.out.call hb); clear hb))
        go_ret
        exact ⟨rfl, SZ.out.ext⟩
      · have c3 : decide (k < 0) = false := by simpa using h3
        by_cases h4 : 479001600 < k
        · have c4 : decide (479001600 < k) = true := by simpa using h4
          clear h1 h2 h3 h4
          go_enter Try.func3, Try.ntmps3
          go_wp2_with (go_at_call 7; go_must (refine (Orders11 _).mono ?_; rintro e wz ⟨rfl, hb⟩; have SZ := Lib.hid (S0.out.call hb); clear hb))
          go_ret
          exact ⟨rfl, SZ.out.ext⟩
        · have c4 : decide (479001600 < k) = false := by simpa using h4
          obtain ⟨a, rfl⟩ : ∃ a : Nat, n = a := ⟨n.toNat, by omega⟩
          obtain ⟨b, rfl⟩ : ∃ b : Nat, k = b := ⟨k.toNat, by omega⟩
          have ha : a ≤ 12 := by omega
          have hb : b ≤ 479001600 := by omega
          clear h1 h2 h3 h4
          have eb : ((b + 1 : Nat) : Int) = (b:Int) + 1 := by omega
          by_cases hf : b < fac a
          · have HA := Lib.hid (fun W => Nth_yes a b W ha hf)
            have hl := nthI_len a b
            have ho := nthI_ordB hf
            have ht := turnV_ord ho (by omega)
            have hT : turnA (nthI a b) = b := nthI_turn hf
            rw [hT] at ht
            have HT : Hid (∀ W p c, Rd W 1 p a (encI (nthI a b)) → a ≤ c → Calls Try.prog 9 #[.slice p a c] W fun e w' => e = .returned (.tuple #[.int .i64 b, .int .i64 0]) ∧ Ext W w') := fun W p c hr hc => by
              have := TurnsG p a c (nthI a b) W hr (by omega) hc
              rw [ht.1, ht.2] at this
              exact this
            have HI : Hid (∀ W p c, Rd W 1 p a (encI (nthI a b)) → Calls Try.prog 10 #[.slice p a c, .int .i64 a] W fun e w' => e = .returned (.bool true) ∧ Ext W w') := fun W p c hr => by
              have := OrdIsG p a c (nthI a b) a W hr (by omega)
              have e : isN (nthI a b) (a:Int) = true := by unfold isN; rw [hl, decide_eq_true rfl, ho]; rfl
              rw [e] at this
              exact this
            by_cases hf2 : b + 1 < fac a
            · have HB := Lib.hid (fun W => Nth_yes a (b + 1) W ha hf2)
              rw [eb] at HB
              obtain ⟨i0, hi0, he, hlt0⟩ := nthI_less (Nat.lt_succ_self b) hf2
              have HE := Lib.hid he
              generalize nthI a b = A at *
              generalize nthI a (b + 1) = B at *
              clear hf hf2 hl ho ht hT eb he
              go_enter Try.func3, Try.ntmps3
              go_wp2_with (first | (go_at_call 10; go_must (refine (HI.out _ _ _ (S3.out.rdx 1 rfl)).mono ?_; rintro e w4 ⟨rfl, hb⟩; have S4 := Lib.hid (S3.out.call hb); clear hb)) | (go_at_call 9; go_must (refine (HT.out _ _ _ (S2.out.rdx 1 rfl) (own_cap (S2.out.own 1 rfl))).mono ?_; rintro e w3 ⟨rfl, hb⟩; have S3 := Lib.hid (S2.out.call hb); clear hb)) | (go_at_call 8; have _t := S1; go_must (refine (HB.out _).mono ?_; rintro e w2 ⟨q2, c2, rfl, Z⟩; have S2 := Lib.hid (S1.out.comp Z); clear Z)) | (go_at_call 8; have _t := S0; go_must (refine (HA.out _).mono ?_; rintro e w1 ⟨q1, c1, rfl, Z⟩; have S1 := Lib.hid (S0.out.comp Z); clear Z)))
              go_loopw [11] (fun i wr => ∃ j : Nat, j ≤ i0 ∧ i = .int .i64 j ∧ Sep w wr [.own 3 1 q2 a c2 (encI B), .own 3 1 q1 a c1 (encI A)]) (fun i _ => a - (intOf i).toNat)
              case atStart => exact ⟨0, Nat.zero_le _, rfl, S4.out⟩
              case round =>
                clear S0 S1 S2 S3 S4
                obtain ⟨j, hj, rfl, S⟩ := hrel
                have g1 := (S.rdx 1 rfl).cI (k := j) (by omega)
                have g2 := (S.rdx 0 rfl).cI (k := j) (by omega)
                have p1 := (S.rdx 1 rfl).ptr
                have p2 := (S.rdx 0 rfl).ptr
                have d1 : (0:Int) ≤ j := by omega
                have d2 : (j:Int) < a := by omega
                by_cases hj0 : j = i0
                · subst hj0
                  have f1 : decide (nth B j < nth A j) = false := by simp; omega
                  have f2 : decide (nth A j < nth B j) = true := by simpa using hlt0
                  generalize nth A j = x at *
                  generalize nth B j = y at *
                  clear hlt0 hj
                  have SH := Lib.hid S; clear S
                  go_wp2
                  have u1 := fun x : ExtOf wr => x.ext.cell g1
                  have u2 := fun x : ExtOf wr => x.ext.cell g2
                  refine wp_region_ext (by kernel_rfl) (by kernel_rfl) ?_
                  repeat (go_big_quiet_step ((fail)))
                  refine wpQuiet_nil ?_
                  rintro w8 ⟨⟨_, hb8⟩, rfl⟩
                  go_wp2
                  have SH2 := Lib.hid (SH.out.call hb8)
                  have g3 := hb8.cell g1
                  have g4 := hb8.cell g2
                  have u3 := fun x : ExtOf w8 => x.ext.cell g3
                  have u4 := fun x : ExtOf w8 => x.ext.cell g4
                  refine wp_region_ext (by kernel_rfl) (by kernel_rfl) ?_
                  repeat (go_big_quiet_step ((fail)))
                  refine wpQuiet_nil ?_
                  rintro w9 ⟨⟨_, hb9⟩, rfl⟩
                  have SH3 := Lib.hid (SH2.out.call hb9)
                  go_wp2_with (go_at_call 7; go_must (refine (Orders11 _).mono ?_; rintro e wz ⟨rfl, hb⟩; have SZ := Lib.hid (SH3.out.call hb); clear hb))
                  go_ret
                  exact ⟨rfl, SZ.out.ext⟩
                · have hxy := HE.out j (by omega)
                  rw [← hxy] at g2
                  have f1 : decide (nth A j < nth A j) = false := by simp
                  have hj1 : j + 1 ≤ i0 := by omega
                  generalize nth A j = x at *
                  clear hlt0 hj hxy hj0
                  have SH := Lib.hid S; clear S
                  go_wp2
                  have u1 := fun x : ExtOf wr => x.ext.cell g1
                  have u2 := fun x : ExtOf wr => x.ext.cell g2
                  refine wp_region_ext (by kernel_rfl) (by kernel_rfl) ?_
                  repeat (go_big_quiet_step ((fail)))
                  refine wpQuiet_nil ?_
                  rintro w8 ⟨⟨_, hb8⟩, rfl⟩
                  go_wp2
                  have SH2 := Lib.hid (SH.out.call hb8)
                  have g3 := hb8.cell g1
                  have g4 := hb8.cell g2
                  have u3 := fun x : ExtOf w8 => x.ext.cell g3
                  have u4 := fun x : ExtOf w8 => x.ext.cell g4
                  refine wp_region_ext (by kernel_rfl) (by kernel_rfl) ?_
                  repeat (go_big_quiet_step ((fail)))
                  refine wpQuiet_nil ?_
                  rintro w9 ⟨⟨_, hb9⟩, rfl⟩
                  have SH3 := Lib.hid (SH2.out.call hb9)
                  go_wp2
                  go_roundw
                  case rel => exact ⟨j + 1, hj1, by go_num, SH3.out⟩
                  case measure => simp [intOf]; omega
            · have HB := Lib.hid (fun W => Nth_no a (b + 1) W ha hf2 (by omega))
              rw [eb] at HB
              generalize nthI a b = A at *
              clear hf hf2 hl ho ht hT eb
              go_enter Try.func3, Try.ntmps3
              go_wp2_with (first | (go_at_call 7; go_must (refine (Orders11 _).mono ?_; rintro e wz ⟨rfl, hb⟩; have SZ := Lib.hid (S4.out.call hb); clear hb)) | (go_at_call 10; go_must (refine (HI.out _ _ _ (S3.out.rdx 0 rfl)).mono ?_; rintro e w4 ⟨rfl, hb⟩; have S4 := Lib.hid (S3.out.call hb); clear hb)) | (go_at_call 9; go_must (refine (HT.out _ _ _ (S2.out.rdx 0 rfl) (own_cap (S2.out.own 0 rfl))).mono ?_; rintro e w3 ⟨rfl, hb⟩; have S3 := Lib.hid (S2.out.call hb); clear hb)) | (go_at_call 8; have _t := S1; go_must (refine (HB.out _).mono ?_; rintro e w2 ⟨q2, c2, rfl, Z⟩; have S2 := Lib.hid (S1.out.call Z); clear Z)) | (go_at_call 8; have _t := S0; go_must (refine (HA.out _).mono ?_; rintro e w1 ⟨q1, c1, rfl, Z⟩; have S1 := Lib.hid (S0.out.comp Z); clear Z)))
              go_ret
              exact ⟨rfl, SZ.out.ext⟩
          · have HA := Lib.hid (fun W => Nth_no a b W ha hf (by omega))
            have HB := Lib.hid (fun W => Nth_no a (b + 1) W ha (by omega) (by omega))
            rw [eb] at HB
            clear hf eb
            go_enter Try.func3, Try.ntmps3
            go_wp2_with (first | (go_at_call 7; go_must (refine (Orders11 _).mono ?_; rintro e wz ⟨rfl, hb⟩; have SZ := Lib.hid (S2.out.call hb); clear hb)) | (go_at_call 8; have _t := S1; go_must (refine (HB.out _).mono ?_; rintro e w2 ⟨q2, c2, rfl, Z⟩; have S2 := Lib.hid (S1.out.call Z); clear Z)) | (go_at_call 8; have _t := S0; go_must (refine (HA.out _).mono ?_; rintro e w1 ⟨q1, c1, rfl, Z⟩; have S1 := Lib.hid (S0.out.call Z); clear Z)))
            go_ret
            exact ⟨rfl, SZ.out.ext⟩
end Go.Proofs.Ythlmcfbadhidbaa
/- The law OrderEnds: the first order rises, the last one falls; there is none behind. -/
namespace Go.Proofs.Ythlmcfbadhidbaa
open Go Go.RowKit
/-- the last k places, the last one first -/
def backL (a k : Nat) : List Int := (List.range k).map fun j : Nat => (a:Int) - 1 - (j : Int)
theorem backL_len (a k : Nat) : (backL a k).length = k := by simp [backL]
theorem backL_step (a k : Nat) : backL a (k + 1) = backL a k ++ [(a:Int) - 1 - (k:Int)] := by unfold backL; rw [List.range_succ, List.map_append]; rfl
theorem backL_all (a : Nat) : backL a a = (rangeI a).reverse := by
  apply List.ext_getElem
  · simp [backL, rangeI]
  · intro i h1 h2
    have hi : i < a := by simpa [backL] using h1
    simp [backL, rangeI]; omega
theorem fac_pred (a : Nat) : ∃ g, fac a = g + 1 := ⟨fac a - 1, by have := fac_pos a; omega⟩
set_option maxRecDepth 100000 in
set_option maxHeartbeats 8000000 in
theorem lawEnds11 (n : Int) (w : World) : Calls Try.prog 4 #[.int .i64 n] w fun e w' => e = .returned (.bool true) ∧ Ext w w' := by
  obtain ⟨i0, hi0, hz0, hz1, hz2⟩ := info_parts infI
  have S0 := Lib.hid (Sep.start w)
  by_cases h1 : n < 0
  · have c1 : decide (n < 0) = true := by simpa using h1
    clear h1
    go_enter Try.func4, Try.ntmps4
    go_wp2_with (go_at_call 7; go_must (refine (Orders11 _).mono ?_; rintro e wz ⟨rfl, hb⟩; have SZ := Lib.hid (S0.out.call hb); clear hb))
    go_ret
    exact ⟨rfl, SZ.out.ext⟩
  · have c1 : decide (n < 0) = false := by simpa using h1
    by_cases h2 : 12 < n
    · have c2 : decide (12 < n) = true := by simpa using h2
      clear h1 h2
      go_enter Try.func4, Try.ntmps4
      go_wp2_with (go_at_call 7; go_must (refine (Orders11 _).mono ?_; rintro e wz ⟨rfl, hb⟩; have SZ := Lib.hid (S0.out.call hb); clear hb))
      go_ret
      exact ⟨rfl, SZ.out.ext⟩
    · have c2 : decide (12 < n) = false := by simpa using h2
      obtain ⟨a, rfl⟩ : ∃ a : Nat, n = a := ⟨n.toNat, by omega⟩
      have ha : a ≤ 12 := by omega
      clear h1 h2
      obtain ⟨g, hg⟩ := fac_pred a
      have hgb : g ≤ 479001600 := by have := fac_mono (m := a) (n := 12) ha; rw [fac_12] at this; omega
      have HA := Lib.hid (fun W => Nth_yes a 0 W ha (fac_pos a))
      rw [nthI_0] at HA
      have HB := Lib.hid (fun W => Nth_yes a g W ha (by omega))
      have e1 : nthI a g = backL a a := by rw [backL_all, ← nthI_last]; congr 1; omega
      rw [e1] at HB
      have HC := Lib.hid (fun W => Nth_no a (g + 1) W ha (by omega) (by omega))
      rw [show ((g + 1 : Nat) : Int) = (g:Int) + 1 by omega] at HC
      have ho : ordB (backL a a) = true := by rw [← e1]; exact nthI_ordB (by omega)
      have ht := turnV_ord ho (by rw [backL_len]; omega)
      rw [show turnA (backL a a) = g by rw [backL_all, turn_back]; omega] at ht
      have HT : Hid (∀ W p c, Rd W 1 p a (encI (backL a a)) → a ≤ c → Calls Try.prog 9 #[.slice p a c] W fun e w' => e = .returned (.tuple #[.int .i64 g, .int .i64 0]) ∧ Ext W w') := fun W p c hr hc => by
        have := TurnsG p a c (backL a a) W hr (by omega) hc
        rw [ht.1, ht.2] at this
        exact this
      have HN : Hid (∀ k, k < a → nth (rangeI a) k = k) := fun k hk => rangeI_nth hk
      clear e1 ho ht hg
      go_enter Try.func4, Try.ntmps4
      go_wp2
      go_loopw [3, 4] (fun v3 i wr => ∃ (k : Nat) (q : Option Addr) (c : Nat), k ≤ a ∧ i = .int .i64 ((a:Int) - 1 - (k:Int)) ∧ v3 = .slice q k c ∧ Sep w wr [.own 3 1 q k c (encI (backL a k))]) (fun _ i _ => (intOf i + 1).toNat)
      case atStart => exact ⟨0, none, 0, Nat.zero_le _, by go_num, rfl, S0.out.nilrow 3 1⟩
      case round =>
        clear S0
        obtain ⟨k, q, c, hk, rfl, rfl, S⟩ := hrel
        by_cases hlt : k < a
        · have d1 : decide ((0:Int) ≤ (a:Int) - 1 - (k:Int)) = true := by simp; omega
          have HS := Lib.hid (backL_step a k)
          obtain ⟨z, hz⟩ : ∃ z : Nat, (a:Int) - 1 - (k:Int) = z := ⟨a - 1 - k, by omega⟩
          have HZ : Hid ((a:Int) - 1 - ((k + 1 : Nat) : Int) = (z:Int) - 1) := by unfold Hid; omega
          have hzb : z ≤ 12 := by omega
          rw [hz] at HS
          rw [hz]
          clear hz d1
          have SH := Lib.hid S; clear S
          go_wp2_with (at_builtin; go_must (refine wpList_append_sep rfl _ _ _ rfl 3 i0 _ 1 8 Try.underlying23 hi0 hz0 hz1 hz2 rfl (by omega) (SH.out.junk _) 0 q k c _ rfl rfl _ 1 1 _ rfl (Rd.oneI _ _ _) (one_encI _) (by omega) (by omega) ?_; intro q7 c7 w7 S' hsz; have S6 := Lib.hid S'; clear S' hsz))
          go_roundw
          case rel => exact ⟨k + 1, q7, c7, by omega, by rw [HZ.out], rfl, by rw [HS.out, encI_append]; exact S6.out⟩
          case measure => simp [intOf]; try omega
        · obtain rfl : k = a := by omega
          have d1 : decide ((0:Int) ≤ (k:Int) - 1 - (k:Int)) = false := by rw [decide_eq_false_iff_not]; omega
          have hz : (k:Int) - 1 - (k:Int) = -1 := by omega
          rw [hz]
          clear hz d1
          have SH := Lib.hid S; clear S
          go_wp2_with (first
            | (go_at_call 8; have _t := S3; go_must (refine (HC.out _).mono ?_; rintro e w4 ⟨q4, c4, rfl, hb⟩; have S4 := Lib.hid (S3.out.call hb); clear hb))
            | (go_at_call 8; have _t := S2; go_must (refine (HB.out _).mono ?_; rintro e w3 ⟨q3, c3, rfl, Z⟩; have S3 := Lib.hid (S2.out.comp Z); clear Z))
            | (go_at_call 9; go_must (refine (HT.out _ _ _ (S1.out.rdx 1 rfl) (own_cap (S1.out.own 1 rfl))).mono ?_; rintro e w2 ⟨rfl, hb⟩; have S2 := Lib.hid (S1.out.call hb); clear hb))
            | (go_at_call 8; have _t := SH; go_must (refine (HA.out _).mono ?_; rintro e w1 ⟨q1, c1, rfl, Z⟩; have S1 := Lib.hid (SH.out.comp Z); clear Z)))
          go_loopw [13] (fun i wx => ∃ j : Nat, j ≤ k ∧ i = .int .i64 j ∧ Sep w wx [.own 3 1 q3 k c3 (encI (backL k k)), .own 3 1 q1 k c1 (encI (rangeI k)), .own 3 1 q k c (encI (backL k k))]) (fun i _ => k - (intOf i).toNat)
          case atStart => exact ⟨0, Nat.zero_le _, rfl, S4.out⟩
          case round =>
            clear SH S1 S2 S3 S4 HA HB HC HT
            obtain ⟨j, hj, rfl, S⟩ := hrel
            have p1 := (S.rdx 1 rfl).ptr
            by_cases hlj : j < k
            · have g1 := (S.rdx 1 rfl).cI hlj
              rw [HN.out j hlj] at g1
              have d1 : (0:Int) ≤ j := by omega
              have d2 : (j:Int) < k := by omega
              have SH := Lib.hid S; clear S
              go_wp2
              go_roundw
              case rel => exact ⟨j + 1, by omega, by go_num, SH.out⟩
              case measure => simp [intOf]; omega
            · obtain rfl : j = k := by omega
              have SH := Lib.hid S; clear S
              go_wp2_with (first
                | (go_at_call 11; go_must (refine (IntsY _ _ _ _ _ _ (backL j j) _ (SZ.out.rdx 0 rfl) (SZ.out.rdx 2 rfl)).mono ?_; rintro e w5 ⟨rfl, hb⟩; have S5 := Lib.hid (SZ.out.call hb); clear hb))
                | (go_at_call 7; go_must (refine (Orders11 _).mono ?_; rintro e wz ⟨rfl, hb⟩; have SZ := Lib.hid (SH.out.call hb); clear hb)))
              go_ret
              exact ⟨rfl, S5.out.ext⟩
end Go.Proofs.Ythlmcfbadhidbaa
