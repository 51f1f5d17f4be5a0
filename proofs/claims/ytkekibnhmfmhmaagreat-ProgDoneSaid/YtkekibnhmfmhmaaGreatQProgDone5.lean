/- Texts of this claim, one behind the other: Rf5, Open, Open5, OpenQ, LDone18, Post. -/
import Derived.ProofKit
import Derived.Deep.Slices
import Derived.Deep.Fields
import Derived.ChangeSame
import Derived.Lib.SmallJoins
import Derived.Below
import Derived.Carry
import Derived.OpenShut
import Derived.Test.YtkekibnhmfmhmaaGreatProg
import Derived.Test.YtkekibnhmfmhmaaGreatQProgDone4
/- Chapter 18 (reference): Done; Same. -/
namespace Go.Proofs.YtkekibnhmfmhmaaGreat
open Go Go.RowKit
set_option maxRecDepth 100000 in
set_option maxHeartbeats 4000000 in
theorem RDone1 (f t : Int) (pw : Option Addr) (nw cw : Nat) (rad most : Int) (pl : Option Addr) (nl cl : Nat) (p : Option Addr) (n c : Nat) (l : List Sq) (pm : Option Addr) (nm cm : Nat) (M : List Sq) (w : World) (hl : Rd w 4 p n (encQ l)) (hM : Rd w 4 pm nm (encQ M)) (hb : ∀ x ∈ l, -1000000 ≤ x.d ∧ x.d ≤ 1000000) :
    Calls Tryz.prog 14 #[.agg #[.int .i64 1, .int .i64 f, .int .i64 t, .slice pw nw cw, .int .i64 rad, .int .i64 most], .slice pl nl cl, .slice p n c, .slice pm nm cm] w (DistQ l M w) := by
  have S0 := Lib.hid (((Sep.start w).al #[.int .i64 1, .int .i64 f, .int .i64 t, .slice pw nw cw, .int .i64 rad, .int .i64 most] 24 w.heap.size rfl).al #[.bool false, .int .i64 0, .slice none 0 0] 33 (w.heap.size + 1) (by simp))
  have HD := Lib.hid (fun W (h : Ext w W) => Dist18 p n c l pm nm cm M W (hl.ext h) (hM.ext h) hb)
  clear hl hM hb
  go_enter Tryz.func14, Tryz.ntmps14
  go_wp2_with (go_at_call 51; go_must (refine (HD.out _ S0.out.ext).mono ?_; rintro e w1 ⟨b, d, rfl, hE, hA⟩; have HA := Lib.hid hA; have S1 := Lib.hid (S0.out.call hE); clear hE hA; have b0 := (S1.out.blk 0 rfl).cell 0; have b1 := (S1.out.blk 0 rfl).cell 1; have b2 := (S1.out.blk 0 rfl).cell 2; have bz := (S1.out.blk 0 rfl).lt; have f0 := (S1.out.blk 0 rfl).frozen 0; have f1 := (S1.out.blk 0 rfl).frozen 1; have f2 := (S1.out.blk 0 rfl).frozen 2))
  have S9 := Lib.hid (((S1.out.set 0 rfl 0 (.bool b)).set 0 rfl 1 (.int .i64 d)).set 0 rfl 2 (.slice none 0 0))
  have x0 := (S9.out.blk 0 rfl).cell 0
  have x1 := (S9.out.blk 0 rfl).cell 1
  have x2 := (S9.out.blk 0 rfl).cell 2
  exact bodyPost_ret (v := .tuple #[.agg #[.bool b, .int .i64 d, .slice none 0 0], .bool (b || !hasD M 0 || !hasD M 1)]) (by simp [results, Tryz.results14, go_sem, x0, x1, x2, Tryz.sizeOf33, Tryz.isAgg33]) rfl (distQ_mk rfl S9.out.ext HA.out)
set_option maxRecDepth 100000 in
set_option maxHeartbeats 8000000 in
theorem RDone2 (f t : Int) (pw : Option Addr) (nw cw : Nat) (rad most : Int) (pl : Option Addr) (nl cl : Nat) (p : Option Addr) (n c : Nat) (l : List Sq) (pm : Option Addr) (nm cm : Nat) (w : World) (hl : Rd w 4 p n (encQ l)) :
    Calls Tryz.prog 14 #[.agg #[.int .i64 2, .int .i64 f, .int .i64 t, .slice pw nw cw, .int .i64 rad, .int .i64 most], .slice pl nl cl, .slice p n c, .slice pm nm cm] w fun e w' => e = .returned (.tuple #[.agg #[.bool (atS l t), .int .i64 0, .slice none 0 0], .bool (atS l t || decide (nm = 0))]) ∧ Ext w w' := by
  have S0 := Lib.hid (((Sep.start w).al #[.int .i64 2, .int .i64 f, .int .i64 t, .slice pw nw cw, .int .i64 rad, .int .i64 most] 24 w.heap.size rfl).al #[.bool false, .int .i64 0, .slice none 0 0] 33 (w.heap.size + 1) (by simp))
  have p1 := hl.ptr
  have n1 := hl.small
  have L1 := Lib.hid hl.nQ
  have HL := Lib.hid hl
  clear hl
  go_enter Tryz.func14, Tryz.ntmps14
  go_wp2
  go_loopw [10] (fun i wr => ∃ j : Nat, j ≤ n ∧ i = .int .i64 j ∧ Hid ((l.take j).any (fun x => x.r == 0 && x.v == t) = false) ∧ Sep w wr [.blk (w.heap.size + 1) 33 #[.bool false, .int .i64 0, .slice none 0 0], .blk w.heap.size 24 #[.int .i64 2, .int .i64 f, .int .i64 t, .slice pw nw cw, .int .i64 rad, .int .i64 most]]) (fun i _ => n - (intOf i).toNat)
  case atStart => exact ⟨0, Nat.zero_le _, rfl, rfl, S0.out⟩
  case round =>
    clear S0
    obtain ⟨j, hj, rfl, HA, S⟩ := hrel
    have a2 := (S.blk 1 rfl).cell 2
    by_cases hlt : j < n
    · obtain ⟨g1, g2, g3, g4⟩ := (HL.out.ext S.ext).cQ hlt
      have hjl : j < l.length := by rw [← L1.out]; exact hlt
      have HTA := Lib.hid (any_true_at (fun x : Sq => x.r == 0 && x.v == t) l j hjl)
      have HST := Lib.hid (any_step (fun x : Sq => x.r == 0 && x.v == t) l j hjl HA.out)
      have d1 : (0:Int) ≤ j := by omega
      have d2 : (j:Int) < n := by omega
      have SH := Lib.hid S; clear S
      clear hjl
      generalize nth l j = x at *
      by_cases x1 : x.r = 0
      · have e1 : (x.r == 0) = true := by simpa using x1
        by_cases x2 : x.v = t
        · have e2 : (x.v == t) = true := by simpa using x2
          have HF : Hid (atS l t = true) := HTA.out (by rw [e1, e2]; rfl)
          clear HTA HST x1 x2
          go_wp2
          have z2 := fun x : ExtOf wr => x.ext.cell g2
          have z3 := fun x : ExtOf wr => x.ext.cell g3
          have z4 := fun x : ExtOf wr => x.ext.cell a2
          refine wp_region_ext (by kernel_rfl) (by kernel_rfl) ?_
          repeat (go_big_quiet_step ((fail)))
          refine wpQuiet_nil ?_
          rintro w9 ⟨⟨_, hb9⟩, rfl⟩
          have S1 := Lib.hid (SH.out.call hb9)
          clear z2 z3 z4
          have b0 := (S1.out.blk 0 rfl).cell 0; have b1 := (S1.out.blk 0 rfl).cell 1; have b2 := (S1.out.blk 0 rfl).cell 2; have bz := (S1.out.blk 0 rfl).lt; have f0 := (S1.out.blk 0 rfl).frozen 0; have f1 := (S1.out.blk 0 rfl).frozen 1; have f2 := (S1.out.blk 0 rfl).frozen 2
          have S9 := Lib.hid (((S1.out.set 0 rfl 0 (.bool true)).set 0 rfl 1 (.int .i64 0)).set 0 rfl 2 (.slice none 0 0))
          have x0 := (S9.out.blk 0 rfl).cell 0
          have x1 := (S9.out.blk 0 rfl).cell 1
          have x2 := (S9.out.blk 0 rfl).cell 2
          go_wp2
          exact bodyPost_ret (v := .tuple #[.agg #[.bool true, .int .i64 0, .slice none 0 0], .bool true]) (by simp [results, Tryz.results14, go_sem, x0, x1, x2, Tryz.sizeOf33, Tryz.isAgg33]) rfl ⟨by rw [HF.out]; rfl, S9.out.ext⟩
        · have e2 : (x.v == t) = false := by simpa using x2
          have HF := Lib.hid (HST.out (by rw [e1, e2]; rfl))
          clear HTA HST x1 x2
          go_wp2
          have z2 := fun x : ExtOf wr => x.ext.cell g2
          have z3 := fun x : ExtOf wr => x.ext.cell g3
          have z4 := fun x : ExtOf wr => x.ext.cell a2
          refine wp_region_ext (by kernel_rfl) (by kernel_rfl) ?_
          repeat (go_big_quiet_step ((fail)))
          refine wpQuiet_nil ?_
          rintro w9 ⟨⟨_, hb9⟩, rfl⟩
          have S1 := Lib.hid (SH.out.call hb9)
          clear z2 z3 z4
          go_wp2
          go_roundw
          case rel => exact ⟨j + 1, by omega, by go_num, HF.out, S1.out⟩
          case measure => simp [intOf]; omega
      · have e1 : (x.r == 0) = false := by simpa using x1
        have HF := Lib.hid (HST.out (by rw [e1]; rfl))
        clear HTA HST x1
        go_wp2
        have z2 := fun x : ExtOf wr => x.ext.cell g2
        refine wp_region_ext (by kernel_rfl) (by kernel_rfl) ?_
        repeat (go_big_quiet_step ((fail)))
        refine wpQuiet_nil ?_
        rintro w9 ⟨⟨_, hb9⟩, rfl⟩
        have S1 := Lib.hid (SH.out.call hb9)
        clear z2
        go_wp2
        go_roundw
        case rel => exact ⟨j + 1, by omega, by go_num, HF.out, S1.out⟩
        case measure => simp [intOf]; omega
    · have HF : Hid (atS l t = false) := any_end _ _ _ (by rw [← L1.out]; exact hlt) HA.out
      have HD : Hid (((nm:Int) == 0) = decide (nm = 0)) := by unfold Hid; rw [Bool.eq_iff_iff]; simp
      have S1 := Lib.hid S
      clear S a2
      have b0 := (S1.out.blk 0 rfl).cell 0; have b1 := (S1.out.blk 0 rfl).cell 1; have b2 := (S1.out.blk 0 rfl).cell 2; have bz := (S1.out.blk 0 rfl).lt; have f0 := (S1.out.blk 0 rfl).frozen 0; have f1 := (S1.out.blk 0 rfl).frozen 1; have f2 := (S1.out.blk 0 rfl).frozen 2
      have S9 := Lib.hid (((S1.out.set 0 rfl 0 (.bool false)).set 0 rfl 1 (.int .i64 0)).set 0 rfl 2 (.slice none 0 0))
      have x0 := (S9.out.blk 0 rfl).cell 0
      have x1 := (S9.out.blk 0 rfl).cell 1
      have x2 := (S9.out.blk 0 rfl).cell 2
      go_wp2
      exact bodyPost_ret (v := .tuple #[.agg #[.bool false, .int .i64 0, .slice none 0 0], .bool ((nm:Int) == 0)]) (by simp [results, Tryz.results14, go_sem, x0, x1, x2, Tryz.sizeOf33, Tryz.isAgg33]) rfl ⟨by rw [HF.out, HD.out]; rfl, S9.out.ext⟩
set_option maxRecDepth 100000 in
set_option maxHeartbeats 4000000 in
theorem RDone3 (f t : Int) (pw : Option Addr) (nw cw : Nat) (ws : List ByteArray) (rad most : Int) (pp : Option Addr) (np cp : Nat) (hs : List Hd) (L : List Po) (p : Option Addr) (n c : Nat) (l : List Sq) (pm : Option Addr) (nm cm : Nat) (w : World) (hL : RdP w pp np hs L) (hok : PoOk L) (hw : Rd w 1 pw nw (encS ws)) (hnw : nw ≤ 100) (hl : Rd w 4 p n (encQ l)) (hn : n ≤ 1000) (hm : nm = 0) :
    Calls Tryz.prog 14 #[.agg #[.int .i64 3, .int .i64 f, .int .i64 t, .slice pw nw cw, .int .i64 rad, .int .i64 most], .slice pp np cp, .slice p n c, .slice pm nm cm] w fun e w' => ∃ q c', e = .returned (.tuple #[.agg #[.bool (decide (0 < (nearS l (allX L ws) most).length)), .int .i64 0, .slice q (nearS l (allX L ws) most).length c'], .bool true]) ∧ Sep w w' [.own 61 2 q (nearS l (allX L ws) most).length c' (encE (nearS l (allX L ws) most))] := by
  have S0 := Lib.hid (((Sep.start w).al #[.int .i64 3, .int .i64 f, .int .i64 t, .slice pw nw cw, .int .i64 rad, .int .i64 most] 24 w.heap.size rfl).al #[.bool false, .int .i64 0, .slice none 0 0] 33 (w.heap.size + 1) (by simp))
  have HH := Lib.hid (fun W (h : Ext w W) => Near18 3 f t pw nw cw ws rad most pp np cp hs L p n c l W (hL.ext h) hok (hw.ext h) hnw (hl.ext h) hn)
  clear hL hok hw hl
  generalize nearS l (allX L ws) most = F at *
  subst hm
  go_enter Tryz.func14, Tryz.ntmps14
  go_wp2_with (go_at_call 52; go_must (refine (HH.out _ S0.out.ext).mono ?_; rintro e w1 ⟨q, d, rfl, Z⟩; have S1 := Lib.hid (S0.out.comp Z); clear Z; have b0 := (S1.out.blk 1 rfl).cell 0; have b1 := (S1.out.blk 1 rfl).cell 1; have b2 := (S1.out.blk 1 rfl).cell 2; have bz := (S1.out.blk 1 rfl).lt; have f0 := (S1.out.blk 1 rfl).frozen 0; have f1 := (S1.out.blk 1 rfl).frozen 1; have f2 := (S1.out.blk 1 rfl).frozen 2))
  have S9 := Lib.hid (((S1.out.set 1 rfl 0 (.bool (decide (0 < F.length)))).set 1 rfl 1 (.int .i64 0)).set 1 rfl 2 (.slice q F.length d))
  have x0 := (S9.out.blk 1 rfl).cell 0
  have x1 := (S9.out.blk 1 rfl).cell 1
  have x2 := (S9.out.blk 1 rfl).cell 2
  exact bodyPost_ret (v := .tuple #[.agg #[.bool (decide (0 < F.length)), .int .i64 0, .slice q F.length d], .bool true]) (by simp [results, Tryz.results14, go_sem, x0, x1, x2, Tryz.sizeOf33, Tryz.isAgg33]) rfl ⟨q, d, rfl, S9.out.pick [0] (by decide) rfl⟩
set_option maxRecDepth 100000 in
set_option maxHeartbeats 4000000 in
theorem RDone3m (f t : Int) (pw : Option Addr) (nw cw : Nat) (rad most : Int) (pp : Option Addr) (np cp : Nat) (p : Option Addr) (n c : Nat) (pm : Option Addr) (nm cm : Nat) (w : World) (hm : 0 < nm) :
    Calls Tryz.prog 14 #[.agg #[.int .i64 3, .int .i64 f, .int .i64 t, .slice pw nw cw, .int .i64 rad, .int .i64 most], .slice pp np cp, .slice p n c, .slice pm nm cm] w fun e w' => e = .returned (.tuple #[.agg #[.bool false, .int .i64 0, .slice none 0 0], .bool false]) ∧ Ext w w' := by
  have S0 := Lib.hid (((Sep.start w).al #[.int .i64 3, .int .i64 f, .int .i64 t, .slice pw nw cw, .int .i64 rad, .int .i64 most] 24 w.heap.size rfl).al #[.bool false, .int .i64 0, .slice none 0 0] 33 (w.heap.size + 1) (by simp))
  have e1 : decide ((0:Int) < (nm:Int)) = true := by simp; omega
  go_enter Tryz.func14, Tryz.ntmps14
  go_wp2
  exact bodyPost_ret (v := .tuple #[.agg #[.bool false, .int .i64 0, .slice none 0 0], .bool false]) (by simp [results, Tryz.results14, go_sem, Tryz.sizeOf33, Tryz.isAgg33]) rfl ⟨rfl, S0.out.ext⟩
set_option maxRecDepth 100000 in
set_option maxHeartbeats 4000000 in
theorem RDone0 (k f t : Int) (pw : Option Addr) (nw cw : Nat) (rad most : Int) (pp : Option Addr) (np cp : Nat) (p : Option Addr) (n c : Nat) (pm : Option Addr) (nm cm : Nat) (w : World) (h1 : k ≠ 1) (h2 : k ≠ 2) (h3 : k ≠ 3) :
    Calls Tryz.prog 14 #[.agg #[.int .i64 k, .int .i64 f, .int .i64 t, .slice pw nw cw, .int .i64 rad, .int .i64 most], .slice pp np cp, .slice p n c, .slice pm nm cm] w fun e w' => e = .returned (.tuple #[.agg #[.bool false, .int .i64 0, .slice none 0 0], .bool true]) ∧ Ext w w' := by
  have S0 := Lib.hid (((Sep.start w).al #[.int .i64 k, .int .i64 f, .int .i64 t, .slice pw nw cw, .int .i64 rad, .int .i64 most] 24 w.heap.size rfl).al #[.bool false, .int .i64 0, .slice none 0 0] 33 (w.heap.size + 1) (by simp))
  have e1 : (k == 1) = false := by simpa using h1
  have e2 : (k == 2) = false := by simpa using h2
  have e3 : (k != 3) = true := by simpa using h3
  clear h1 h2 h3
  go_enter Tryz.func14, Tryz.ntmps14
  go_wp2
  exact bodyPost_ret (v := .tuple #[.agg #[.bool false, .int .i64 0, .slice none 0 0], .bool true]) (by simp [results, Tryz.results14, go_sem, Tryz.sizeOf33, Tryz.isAgg33]) rfl ⟨rfl, S0.out.ext⟩
/-- answers that are the same -/
theorem Same18 (b : Bool) (d : Int) (p q : Option Addr) (n m c e' : Nat) (F : List (Int × Int)) (w : World) (h1 : Rd w 2 p n (encE F)) (h2 : Rd w 2 q m (encE F)) :
    Calls Tryz.prog 16 #[.agg #[.bool b, .int .i64 d, .slice p n c], .agg #[.bool b, .int .i64 d, .slice q m e']] w fun e w' => e = .returned (.bool true) ∧ Ext w w' := by
  have S0 := Lib.hid (((Sep.start w).al #[.bool b, .int .i64 d, .slice p n c] 33 w.heap.size rfl).al #[.bool b, .int .i64 d, .slice q m e'] 33 (w.heap.size + 1) (by simp))
  have HS := Lib.hid (HitsY9 p q n m c e' F _ (h1.ext S0.out.ext) (h2.ext S0.out.ext))
  clear h1 h2
  cases b <;> (go_enter Tryz.func16, Tryz.ntmps16; go_wp2_with (go_at_call 34; go_must (refine HS.out.mono ?_; rintro e w1 ⟨rfl, hb⟩; have S1 := Lib.hid (S0.out.call hb); clear hb)); go_ret; exact ⟨rfl, S1.out.ext⟩)
end Go.Proofs.YtkekibnhmfmhmaaGreat
/- An argument that is a graph, opened: what its slices read. -/
namespace Go.Proofs.YtkekibnhmfmhmaaGreat
open Go Go.RowKit Go.ChangeShapes Go.WideShapes Go.ChangeAt Go.Deep Go.Joins
theorem exists_list {α : Type} [Inhabited α] {n : Nat} {p : Nat → α → Prop} (h : ∀ i, i < n → ∃ x, p i x) : ∃ l : List α, l.length = n ∧ ∀ i, i < n → p i (nth l i) := by
  induction n with
  | zero => exact ⟨[], rfl, fun i hi => by omega⟩
  | succ n ih =>
    obtain ⟨l, hl, hp⟩ := ih fun i hi => h i (by omega)
    obtain ⟨x, hx⟩ := h n (by omega)
    refine ⟨l ++ [x], by simp [hl], fun i hi => ?_⟩
    by_cases e : i = n
    · subst e
      have : nth (l ++ [x]) i = x := by subst hl; exact nth_append_new _ _
      rw [this]; exact hx
    · rw [nth_append_left _ _ _ (by omega)]; exact hp i (by omega)
theorem spot_of_cell {w : World} {a : Addr} {v : Value} (h : w.cell? a = some v) : a = ⟨a.block, a.off, none⟩ := by
  unfold World.cell? at h
  split at h
  · split at h
    · cases h
    · rename_i hs
      obtain ⟨b, o, s⟩ := a
      cases s with
      | none => rfl
      | some s => simp at hs
  · cases h
theorem Rd.of_cells {w : World} {size n : Nat} {a : Addr} {xs : List Value} (h0 : 0 < size) (hlen : xs.length = n * size) (hs : n ≤ 9223372036854775807) (hc : ∀ j, j < n * size → w.cell? (a.add j) = some (xs.getD j undef)) : Rd w size (some a) n xs := by
  rcases Nat.eq_zero_or_pos n with hn | hn
  · subst hn
    have : xs = [] := List.eq_nil_of_length_eq_zero (by simpa using hlen)
    subst this
    exact Rd.nil _ _ _
  · have h1 := hc 0 (Nat.mul_pos hn h0)
    have ha := spot_of_cell (a := a) (by simpa [Addr.add] using h1)
    refine ⟨hlen, .inr ⟨_, _, by rw [ha]⟩, hs, fun j hj => ?_⟩
    rw [← hc j hj]
    congr 1
    rw [ha, adr_some]
    by_cases hj0 : j = 0
    · subst hj0; simp [Addr.add]
    · simp [Addr.add, hj0]
section
variable {H : Type} {enc : TypeId × Value → H} {w : World} {base : Nat} {spare : Nat → Bool} {held : Bool}
theorem open_slice_fields {P : Program} {t e : TypeId} {fs : Array Field} {fuel : Nat} {cs : List Value} {x : DataW H × List MemPlace} (ht : P.underlying t = some (.slice e)) (he : P.underlying e = some (.struct fs))
    (hone : oneCellFields P fs = true) (hC : P.cellsOf e = fs.size) (h : DataW.trod enc P w base spare held fuel t cs = some x) :
    (cs = [.slice none 0 0]) ∨
    ∃ (a : Addr) (len cap : Nat), cs = [.slice (some a) len cap] ∧ len ≤ cap ∧ cap ≤ maxLen ∧
      ∀ i, i < len → ∀ (j : Nat) (f : Field), fs[j]? = some f → ∃ (v : Value) (y : DataW H × List MemPlace) (n : Nat), w.cell? (a.add (i * fs.size + j)) = some v ∧ DataW.trod enc P w base spare held n f.type [v] = some y := by
  rcases open_slice ht h with h0 | ⟨a, len, cap, m, n, D, Pl, hcs, hb, hl, hm, hmm, hx, hi⟩
  · exact .inl h0.1
  · refine .inr ⟨a, len, cap, hcs, hl, hm, fun i hil j f hj => ?_⟩
    obtain ⟨cs', hc, ht'⟩ := hi i (by rw [hmm]; split <;> omega)
    rw [hC] at hc
    obtain ⟨ys, n', hn', hy, hlen, hyl, hf⟩ := DataW.trod_struct he ht'
    obtain ⟨_, hcl, hat⟩ := World.cells?_some hc
    obtain ⟨ho, hk⟩ := hone_of hone j f hj
    have hjl : j < fs.size := (Array.getElem?_eq_some_iff.1 hj).1
    have hcell := hat j hjl
    have hv : cs'[j]? = some (cs'[j]'(by omega)) := List.getElem?_eq_getElem (by omega)
    have h1 := hf j f hj
    rw [ho, hk] at h1
    have hone' : (cs'.drop j).take 1 = [cs'[j]'(by omega)] := by
      rw [List.drop_eq_getElem_cons (by omega)]
      rfl
    rw [hone'] at h1
    have hys : ys[j]? = some (ys[j]'(by omega)) := List.getElem?_eq_getElem (by omega)
    refine ⟨_, _, _, ?_, h1.trans hys⟩
    rw [← Go.Deep.add_add, hcell, hv]
theorem open_edges {t : TypeId} {fuel : Nat} {v : Value} {x : DataW H × List MemPlace} (ht : Tryz.prog.underlying t = some (.slice 108)) (h : DataW.trod enc Tryz.prog w base spare held fuel t [v] = some x) :
    ∃ p n c E, v = .slice p n c ∧ Rd w 2 p n (encE E) := by
  rcases open_slice_fields ht Tryz.underlying108 (by kernel_rfl) (by kernel_rfl) h with h0 | ⟨a, len, cap, hcs, hl, hm, hi⟩
  · simp at h0; exact ⟨none, 0, 0, [], h0, Rd.nil _ _ _⟩
  · simp at hcs
    have hl2 : len ≤ 9223372036854775807 := by unfold maxLen at hm; omega
    have hE : ∀ i, i < len → ∃ e : Int × Int, w.cell? (a.add (i * 2)) = some (.int .i64 e.1) ∧ w.cell? (a.add (i * 2 + 1)) = some (.int .i64 e.2) := by
      intro i hil
      obtain ⟨v1, y1, n1, c1, t1⟩ := hi i hil 0 _ rfl
      obtain ⟨v2, y2, n2, c2, t2⟩ := hi i hil 1 _ rfl
      obtain ⟨k1, e1, _⟩ := DataW.trod_int Tryz.underlying3 t1
      obtain ⟨k2, e2, _⟩ := DataW.trod_int Tryz.underlying3 t2
      simp at e1 e2
      subst e1 e2
      exact ⟨(k1, k2), c1, c2⟩
    obtain ⟨E, hEl, hEc⟩ := exists_list hE
    refine ⟨some a, len, cap, E, hcs, Rd.of_cells (by decide) (by rw [encE_len, hEl]) hl2 fun j hj => ?_⟩
    have hd : j / 2 < len := by omega
    obtain ⟨g1, g2⟩ := encE_get E (j / 2) (by omega)
    obtain ⟨h1, h2⟩ := hEc (j / 2) hd
    have hm2 : j = j / 2 * 2 ∨ j = j / 2 * 2 + 1 := by omega
    rcases hm2 with e | e
    · rw [e, g1]; exact h1
    · rw [e, g2]; exact h2
theorem open_texts {t : TypeId} {fuel : Nat} {v : Value} {x : DataW H × List MemPlace} (ht : Tryz.prog.underlying t = some (.slice 9)) (h : DataW.trod enc Tryz.prog w base spare held fuel t [v] = some x) :
    ∃ p n c l, v = .slice p n c ∧ Rd w 1 p n (encS l) := by
  rcases open_slice ht h with h0 | ⟨a, len, cap, m, n, D, Pl, hcs, hb, hl, hm, hmm, hx, hi⟩
  · obtain ⟨h0, _⟩ := h0; simp at h0; exact ⟨none, 0, 0, [], h0, Rd.nil _ _ _⟩
  · simp at hcs
    have hl2 : len ≤ 9223372036854775807 := by unfold maxLen at hm; omega
    have hc1 : Tryz.prog.cellsOf 9 = 1 := by kernel_rfl
    rw [hc1] at hi
    have hS : ∀ i, i < len → ∃ s : ByteArray, w.cell? (a.add i) = some (.string s) := by
      intro i hil
      obtain ⟨cs', hc, ht'⟩ := hi i (by rw [hmm]; split <;> omega)
      obtain ⟨s, e1, _⟩ := DataW.trod_string Tryz.underlying9 ht'
      obtain ⟨_, hcl, hat⟩ := World.cells?_some hc
      have := hat 0 (by decide)
      rw [Go.Deep.add_add, Nat.mul_one, Nat.add_zero, e1] at this
      exact ⟨s, this⟩
    obtain ⟨l, hll, hlc⟩ := exists_list hS
    refine ⟨some a, len, cap, l, hcs, Rd.of_cells (by decide) (by rw [encS_len, hll, Nat.mul_one]) hl2 fun j hj => ?_⟩
    rw [encS_get l j (by omega)]
    exact hlc j (by omega)
theorem open_rows {t : TypeId} {fuel : Nat} {v : Value} {x : DataW H × List MemPlace} (ht : Tryz.prog.underlying t = some (.slice 22)) (h : DataW.trod enc Tryz.prog w base spare held fuel t [v] = some x) :
    ∃ p n c hs W, v = .slice p n c ∧ RdW w p n hs W := by
  rcases open_slice ht h with h0 | ⟨a, len, cap, m, n, D, Pl, hcs, hb, hl, hm, hmm, hx, hi⟩
  · obtain ⟨h0, _⟩ := h0; simp at h0; exact ⟨none, 0, 0, [], [], h0, rfl, Rd.nil _ _ _, fun j hj => by omega⟩
  · simp at hcs
    have hl2 : len ≤ 9223372036854775807 := by unfold maxLen at hm; omega
    have hc1 : Tryz.prog.cellsOf 22 = 1 := by kernel_rfl
    rw [hc1] at hi
    have hS : ∀ i, i < len → ∃ q : Hd × List ByteArray, w.cell? (a.add i) = some (.slice q.1.p q.1.n q.1.c) ∧ Rd w 1 q.1.p q.1.n (encS q.2) := by
      intro i hil
      obtain ⟨cs', hc, ht'⟩ := hi i (by rw [hmm]; split <;> omega)
      obtain ⟨_, hcl, hat⟩ := World.cells?_some hc
      match cs', hcl with
      | [u], _ =>
        obtain ⟨p, n', c', l, e1, hr⟩ := open_texts Tryz.underlying22 ht'
        have := hat 0 (by decide)
        rw [Go.Deep.add_add, Nat.mul_one, Nat.add_zero, e1] at this
        exact ⟨(⟨p, n', c'⟩, l), this, hr⟩
    obtain ⟨l, hll, hlc⟩ := exists_list hS
    have hm : ∀ i, i < len → nth (l.map (·.1)) i = (nth l i).1 ∧ nth (l.map (·.2)) i = (nth l i).2 := fun i hil => by
      rw [nth_eq (l := l.map (·.1)) (by rw [List.length_map]; omega), nth_eq (l := l.map (·.2)) (by rw [List.length_map]; omega), nth_eq (l := l) (by omega)]; simp
    refine ⟨some a, len, cap, l.map (·.1), l.map (·.2), hcs, by simp, Rd.of_cells (by decide) (by rw [encH_len, List.length_map, hll, Nat.mul_one]) hl2 fun j hj => ?_, fun j hj => ?_⟩
    · rw [encH_get _ j (by simp; omega), (hm j (by omega)).1]
      exact (hlc j (by omega)).1
    · rw [(hm j hj).1, (hm j hj).2]
      exact (hlc j hj).2
set_option maxRecDepth 100000 in
/-- a graph by value -/
theorem open_graph {r : Reach} {b0 : Nat} {v : Value} {d : DataW H} {p : List MemPlace} (hv : Value.okWide Tryz.prog w r b0 112 v) (h : DataW.Trod enc Tryz.prog w base spare held 112 v d p) :
    ∃ N pe ne ce pw nw cw E hs W, v = .agg #[.int .i64 N, .slice pe ne ce, .slice pw nw cw] ∧ Rd w 2 pe ne (encE E) ∧ RdW w pw nw hs W := by
  obtain ⟨v0, v1, v2, y0, y1, y2, n, rfl, _, _, t0, t1, t2⟩ := open_agg3 Tryz.underlying112 (by kernel_rfl) (by kernel_rfl) hv h
  obtain ⟨N, e0, _⟩ := DataW.trod_int Tryz.underlying3 t0
  simp at e0
  subst e0
  obtain ⟨pe, ne, ce, E, rfl, hE⟩ := open_edges Tryz.underlying109 t1
  obtain ⟨pw, nw, cw, hs, W, rfl, hW⟩ := open_rows Tryz.underlying110 t2
  exact ⟨N, pe, ne, ce, pw, nw, cw, E, hs, W, rfl, hE, hW⟩
end
end Go.Proofs.YtkekibnhmfmhmaaGreat
/- Arguments that are rows of numbers, of texts, of postings: what they read. -/
namespace Go.Proofs.YtkekibnhmfmhmaaGreat
open Go Go.RowKit Go.ChangeShapes Go.WideShapes Go.ChangeAt Go.Deep Go.Joins
section
variable {H : Type} {enc : TypeId × Value → H} {w : World} {base : Nat} {spare : Nat → Bool} {held : Bool}
theorem trod_ints {t : TypeId} {fuel : Nat} {v : Value} {x : DataW H × List MemPlace} (ht : Tryz.prog.underlying t = some (.slice 3)) (h : DataW.trod enc Tryz.prog w base spare held fuel t [v] = some x) :
    ∃ p n c l, v = .slice p n c ∧ n ≤ c ∧ Rd w 1 p n (encI l) ∧ ∀ x ∈ l, I64 x := by
  rcases open_slice ht h with h0 | ⟨a, len, cap, m, n, D, Pl, hcs, hb, hl, hm, hmm, hx, hi⟩
  · obtain ⟨h0, _⟩ := h0; simp at h0; exact ⟨none, 0, 0, [], h0, Nat.le_refl _, Rd.nil _ _ _, fun x hx => nomatch hx⟩
  · simp at hcs
    have hl2 : len ≤ 9223372036854775807 := by unfold maxLen at hm; omega
    have hc1 : Tryz.prog.cellsOf 3 = 1 := by kernel_rfl
    rw [hc1] at hi
    have hS : ∀ i, i < len → ∃ s : Int, w.cell? (a.add i) = some (.int .i64 s) ∧ I64 s := by
      intro i hil
      obtain ⟨cs', hc, ht'⟩ := hi i (by rw [hmm]; split <;> omega)
      obtain ⟨s, e1, _, hw⟩ := DataW.trod_int Tryz.underlying3 ht'
      obtain ⟨_, hcl, hat⟩ := World.cells?_some hc
      have := hat 0 (by decide)
      rw [Go.Deep.add_add, Nat.mul_one, Nat.add_zero, e1] at this
      exact ⟨s, this, hw⟩
    obtain ⟨l, hll, hlc⟩ := exists_list hS
    refine ⟨some a, len, cap, l, hcs, hl, Rd.of_cells (by decide) (by rw [encI_len, hll, Nat.mul_one]) hl2 fun j hj => ?_, fun x hx => ?_⟩
    · rw [encI_get l j (by omega)]
      exact (hlc j (by omega)).1
    · obtain ⟨j, hj, rfl⟩ := List.mem_iff_getElem.1 hx
      rw [← nth_eq hj]
      exact (hlc j (by omega)).2
theorem trod_texts {t : TypeId} {fuel : Nat} {v : Value} {x : DataW H × List MemPlace} (ht : Tryz.prog.underlying t = some (.slice 9)) (h : DataW.trod enc Tryz.prog w base spare held fuel t [v] = some x) :
    ∃ p n c l, v = .slice p n c ∧ n ≤ c ∧ Rd w 1 p n (encS l) := by
  obtain ⟨p, n, c, l, rfl, hr⟩ := open_texts ht h
  refine ⟨p, n, c, l, rfl, ?_, hr⟩
  rcases open_slice ht h with h0 | ⟨a, len, cap, m, n', D, Pl, hcs, hb, hl, _⟩
  · obtain ⟨h0, _⟩ := h0; simp at h0; omega
  · simp at hcs; omega
set_option maxRecDepth 100000 in
theorem trod_postings {t : TypeId} {fuel : Nat} {v : Value} {x : DataW H × List MemPlace} (ht : Tryz.prog.underlying t = some (.slice 98)) (h : DataW.trod enc Tryz.prog w base spare held fuel t [v] = some x) :
    ∃ p n c hs L, v = .slice p n c ∧ n ≤ c ∧ RdP w p n hs L ∧ ∀ q ∈ L, ∀ x ∈ q.2, I64 x := by
  rcases open_slice_fields ht Tryz.underlying98 (by kernel_rfl) (by kernel_rfl) h with h0 | ⟨a, len, cap, hcs, hl, hm, hi⟩
  · simp at h0; exact ⟨none, 0, 0, [], [], h0, Nat.le_refl _, ⟨rfl, .inl rfl, by omega, fun k hk => by omega, fun k hk => by omega, fun k hk => by omega⟩, fun q hq => nomatch hq⟩
  · simp at hcs
    have hl2 : len ≤ 9223372036854775807 := by unfold maxLen at hm; omega
    have hE : ∀ i, i < len → ∃ e : (ByteArray × List Int) × Hd, w.cell? (a.add (i * 2)) = some (.string e.1.1) ∧ w.cell? (a.add (i * 2 + 1)) = some (.slice e.2.p e.2.n e.2.c) ∧ Rd w 1 e.2.p e.2.n (encI e.1.2) ∧ ∀ x ∈ e.1.2, I64 x := by
      intro i hil
      obtain ⟨v1, y1, n1, c1, t1⟩ := hi i hil 0 _ rfl
      obtain ⟨v2, y2, n2, c2, t2⟩ := hi i hil 1 _ rfl
      obtain ⟨s, e1, _⟩ := DataW.trod_string Tryz.underlying9 t1
      obtain ⟨p, n', c', l, e2, _, hr, hI⟩ := trod_ints Tryz.underlying39 t2
      simp at e1
      subst e1 e2
      exact ⟨((s, l), ⟨p, n', c'⟩), c1, c2, hr, hI⟩
    obtain ⟨E, hEl, hEc⟩ := exists_list hE
    have hm : ∀ i, i < len → nth (E.map (·.1)) i = (nth E i).1 ∧ nth (E.map (·.2)) i = (nth E i).2 := fun i hil => by
      rw [nth_eq (l := E.map (·.1)) (by rw [List.length_map]; omega), nth_eq (l := E.map (·.2)) (by rw [List.length_map]; omega), nth_eq (l := E) (by omega)]; simp
    have hptr : SlP (some a) len := by
      rcases Nat.eq_zero_or_pos len with h0 | h0
      · exact .inl h0
      · have h1 := (hEc 0 h0).1
        exact .inr ⟨_, _, by rw [spot_of_cell (a := a) (by simpa [Addr.add] using h1)]⟩
    have hadr : ∀ i j, i < len → a.add (i * 2 + j) = adr (some a) (i * 2 + j) := by
      intro i j hil
      have h1 := (hEc 0 (by omega)).1
      have ha := spot_of_cell (a := a) (by simpa [Addr.add] using h1)
      generalize i * 2 + j = m
      rw [ha, adr_some]
      by_cases hj0 : m = 0
      · rw [hj0]; simp [Addr.add]
      · simp [Addr.add, hj0]
    refine ⟨some a, len, cap, E.map (·.2), E.map (·.1), hcs, hl, ⟨by simp [hEl], hptr, hl2, fun k hk => ?_, fun k hk => ?_, fun k hk => ?_⟩, fun q hq => ?_⟩
    · rw [(hm k hk).1, ← Nat.add_zero (k * 2), ← hadr k 0 hk]; exact (hEc k hk).1
    · rw [(hm k hk).2, ← hadr k 1 hk]; exact (hEc k hk).2.1
    · rw [(hm k hk).1, (hm k hk).2]; exact (hEc k hk).2.2.1
    · obtain ⟨e, he, rfl⟩ := List.mem_map.1 hq
      obtain ⟨j, hj, rfl⟩ := List.mem_iff_getElem.1 he
      rw [← nth_eq hj]
      exact (hEc j (by omega)).2.2.2
set_option maxRecDepth 100000 in
theorem open_top {t e : TypeId} {r : Reach} {b0 : Nat} {v : Value} {d : DataW H} {p : List MemPlace} (ht : Tryz.prog.underlying t = some (.slice e)) (hv : Value.okWide Tryz.prog w r b0 t v) (h : DataW.Trod enc Tryz.prog w base spare held t v d p) :
    ∃ fuel, DataW.trod enc Tryz.prog w base spare held fuel t [v] = some (d, p) := by
  obtain ⟨a, n, c, rfl⟩ := okWide_slice ht hv
  exact h
set_option maxRecDepth 100000 in
theorem open_introw {r : Reach} {b0 : Nat} {v : Value} {d : DataW H} {p : List MemPlace} (hv : Value.okWide Tryz.prog w r b0 39 v) (h : DataW.Trod enc Tryz.prog w base spare held 39 v d p) :
    ∃ p n c l, v = .slice p n c ∧ n ≤ c ∧ Rd w 1 p n (encI l) ∧ ∀ x ∈ l, I64 x := by
  obtain ⟨f, hf⟩ := open_top Tryz.underlying39 hv h
  exact trod_ints Tryz.underlying39 hf
set_option maxRecDepth 100000 in
theorem open_textrow {r : Reach} {b0 : Nat} {v : Value} {d : DataW H} {p : List MemPlace} (hv : Value.okWide Tryz.prog w r b0 22 v) (h : DataW.Trod enc Tryz.prog w base spare held 22 v d p) :
    ∃ p n c l, v = .slice p n c ∧ n ≤ c ∧ Rd w 1 p n (encS l) := by
  obtain ⟨f, hf⟩ := open_top Tryz.underlying22 hv h
  exact trod_texts Tryz.underlying22 hf
set_option maxRecDepth 100000 in
theorem open_postings {r : Reach} {b0 : Nat} {v : Value} {d : DataW H} {p : List MemPlace} (hv : Value.okWide Tryz.prog w r b0 25 v) (h : DataW.Trod enc Tryz.prog w base spare held 25 v d p) :
    ∃ p n c hs L, v = .slice p n c ∧ n ≤ c ∧ RdP w p n hs L ∧ ∀ q ∈ L, ∀ x ∈ q.2, I64 x := by
  obtain ⟨f, hf⟩ := open_top Tryz.underlying25 hv h
  exact trod_postings Tryz.underlying25 hf
end
end Go.Proofs.YtkekibnhmfmhmaaGreat
/- Arguments that are queries, states, messages: what they read. -/
namespace Go.Proofs.YtkekibnhmfmhmaaGreat
open Go Go.RowKit Go.ChangeShapes Go.WideShapes Go.ChangeAt Go.Deep Go.Joins
/-- numbers that ints hold -/
def Sq.I (x : Sq) : Prop := I64 x.s ∧ I64 x.r ∧ I64 x.v ∧ I64 x.d
section
variable {H : Type} {enc : TypeId × Value → H} {w : World} {base : Nat} {spare : Nat → Bool} {held : Bool}
set_option maxRecDepth 100000 in
theorem trod_Key {fuel : Nat} {cs : List Value} {x : DataW H × List MemPlace} (h : DataW.trod enc Tryz.prog w base spare held fuel 43 cs = some x) : ∃ a b c : Int, cs = [.int .i64 a, .int .i64 b, .int .i64 c] ∧ I64 a ∧ I64 b ∧ I64 c := by
  obtain ⟨xs, n, _, _, hl, hx, hg⟩ := DataW.trod_struct Tryz.underlying43 h
  have hc : Tryz.prog.cellsOf 43 = 3 := by kernel_rfl
  have hi : Tryz.prog.cellsOf 3 = 1 := by kernel_rfl
  rw [hc] at hl
  match cs, hl, xs, hx with
  | [c0, c1, c2], _, [y0, y1, y2], _ =>
    have t0 : DataW.trod enc Tryz.prog w base spare held n 3 [c0] = some y0 := by simpa [hi] using hg 0 _ rfl
    have t1 : DataW.trod enc Tryz.prog w base spare held n 3 [c1] = some y1 := by simpa [hi] using hg 1 _ rfl
    have t2 : DataW.trod enc Tryz.prog w base spare held n 3 [c2] = some y2 := by simpa [hi] using hg 2 _ rfl
    obtain ⟨a, e0, _, i0⟩ := DataW.trod_int Tryz.underlying3 t0
    obtain ⟨b, e1, _, i1⟩ := DataW.trod_int Tryz.underlying3 t1
    obtain ⟨c, e2, _, i2⟩ := DataW.trod_int Tryz.underlying3 t2
    simp at e0 e1 e2
    subst e0 e1 e2
    exact ⟨a, b, c, rfl, i0, i1, i2⟩
set_option maxRecDepth 100000 in
theorem trod_State {fuel : Nat} {cs : List Value} {x : DataW H × List MemPlace} (h : DataW.trod enc Tryz.prog w base spare held fuel 45 cs = some x) : ∃ q : Sq, cs = [.int .i64 q.s, .int .i64 q.r, .int .i64 q.v, .int .i64 q.d] ∧ q.I := by
  obtain ⟨xs, n, _, _, hl, hx, hg⟩ := DataW.trod_struct Tryz.underlying45 h
  have hc : Tryz.prog.cellsOf 45 = 4 := by kernel_rfl
  have hk : Tryz.prog.cellsOf 43 = 3 := by kernel_rfl
  have hi : Tryz.prog.cellsOf 3 = 1 := by kernel_rfl
  rw [hc] at hl
  match cs, hl, xs, hx with
  | [c0, c1, c2, c3], _, [y0, y1], _ =>
    have t0 : DataW.trod enc Tryz.prog w base spare held n 43 [c0, c1, c2] = some y0 := by simpa [hk] using hg 0 _ rfl
    have t1 : DataW.trod enc Tryz.prog w base spare held n 3 [c3] = some y1 := by simpa [hi] using hg 1 _ rfl
    obtain ⟨a, b, c, e0, i0, i1, i2⟩ := trod_Key t0
    obtain ⟨d, e1, _, i3⟩ := DataW.trod_int Tryz.underlying3 t1
    simp at e0 e1
    obtain ⟨rfl, rfl, rfl⟩ := e0
    subst e1
    exact ⟨⟨a, b, c, d⟩, rfl, i0, i1, i2, i3⟩
set_option maxRecDepth 100000 in
theorem trod_Mail {fuel : Nat} {cs : List Value} {x : DataW H × List MemPlace} (h : DataW.trod enc Tryz.prog w base spare held fuel 81 cs = some x) : ∃ q : Sq, cs = [.int .i64 q.s, .int .i64 q.r, .int .i64 q.v, .int .i64 q.d] ∧ q.I := by
  obtain ⟨xs, n, _, _, hl, hx, hg⟩ := DataW.trod_struct Tryz.underlying81 h
  have hc : Tryz.prog.cellsOf 81 = 4 := by kernel_rfl
  have hk : Tryz.prog.cellsOf 43 = 3 := by kernel_rfl
  have hi : Tryz.prog.cellsOf 3 = 1 := by kernel_rfl
  rw [hc] at hl
  match cs, hl, xs, hx with
  | [c0, c1, c2, c3], _, [y0, y1], _ =>
    have t0 : DataW.trod enc Tryz.prog w base spare held n 43 [c0, c1, c2] = some y0 := by simpa [hk] using hg 0 _ rfl
    have t1 : DataW.trod enc Tryz.prog w base spare held n 3 [c3] = some y1 := by simpa [hi] using hg 1 _ rfl
    obtain ⟨a, b, c, e0, i0, i1, i2⟩ := trod_Key t0
    obtain ⟨d, e1, _, i3⟩ := DataW.trod_int Tryz.underlying3 t1
    simp at e0 e1
    obtain ⟨rfl, rfl, rfl⟩ := e0
    subst e1
    exact ⟨⟨a, b, c, d⟩, rfl, i0, i1, i2, i3⟩
set_option maxRecDepth 100000 in
theorem open_State {r : Reach} {b0 : Nat} {v : Value} {d : DataW H} {p : List MemPlace} (hv : Value.okWide Tryz.prog w r b0 45 v) (h : DataW.Trod enc Tryz.prog w base spare held 45 v d p) : ∃ q : Sq, v = .agg #[.int .i64 q.s, .int .i64 q.r, .int .i64 q.v, .int .i64 q.d] ∧ q.I := by
  obtain ⟨cs, rfl, hsz⟩ := okWide_struct Tryz.underlying45 hv
  obtain ⟨fuel, hf⟩ := h
  obtain ⟨q, e, hq⟩ := trod_State hf
  refine ⟨q, ?_, hq⟩
  obtain ⟨l⟩ := cs
  simp [Value.cells] at e
  rw [e]
theorem adr_of_cell {a : Addr} {v : Value} {m : Nat} (h : w.cell? a = some v) : a.add m = adr (some a) m := by
  have ha := spot_of_cell h
  rw [ha, adr_some]
  by_cases hj0 : m = 0
  · rw [hj0]; simp [Addr.add]
  · simp [Addr.add, hj0]
set_option maxRecDepth 100000 in
theorem trod_States {t : TypeId} {fuel : Nat} {v : Value} {x : DataW H × List MemPlace} (ht : Tryz.prog.underlying t = some (.slice 45)) (h : DataW.trod enc Tryz.prog w base spare held fuel t [v] = some x) : ∃ p n c l, v = .slice p n c ∧ n ≤ c ∧ Rd w 4 p n (encQ l) ∧ ∀ q ∈ l, q.I := by
  rcases open_slice ht h with h0 | ⟨a, len, cap, m, n, D, Pl, hcs, hb, hl, hm, hmm, hx, hi⟩
  · obtain ⟨h0, _⟩ := h0; simp at h0; exact ⟨none, 0, 0, [], h0, Nat.le_refl _, Rd.nil _ _ _, fun x hx => nomatch hx⟩
  · simp at hcs
    have hl2 : len ≤ 9223372036854775807 := by unfold maxLen at hm; omega
    have hc1 : Tryz.prog.cellsOf 45 = 4 := by kernel_rfl
    rw [hc1] at hi
    have hS : ∀ i, i < len → ∃ q : Sq, (w.cell? (a.add (i * 4)) = some (.int .i64 q.s) ∧ w.cell? (a.add (i * 4 + 1)) = some (.int .i64 q.r) ∧ w.cell? (a.add (i * 4 + 2)) = some (.int .i64 q.v) ∧ w.cell? (a.add (i * 4 + 3)) = some (.int .i64 q.d)) ∧ q.I := by
      intro i hil
      obtain ⟨cs', hc, ht'⟩ := hi i (by rw [hmm]; split <;> omega)
      obtain ⟨q, e1, hq⟩ := trod_State ht'
      obtain ⟨_, hcl, hat⟩ := World.cells?_some hc
      subst e1
      have h0 := hat 0 (by decide)
      have h1 := hat 1 (by decide)
      have h2 := hat 2 (by decide)
      have h3 := hat 3 (by decide)
      rw [Go.Deep.add_add] at h0 h1 h2 h3
      exact ⟨q, ⟨h0, h1, h2, h3⟩, hq⟩
    obtain ⟨l, hll, hlc⟩ := exists_list hS
    refine ⟨some a, len, cap, l, hcs, hl, Rd.of_cells (by decide) (by rw [encQ_len, hll]) hl2 fun j hj => ?_, fun x hx => ?_⟩
    · have hd : j / 4 < len := by omega
      obtain ⟨g1, g2, g3, g4⟩ := encQ_get l (j / 4) (by omega)
      obtain ⟨⟨h1, h2, h3, h4⟩, _⟩ := hlc (j / 4) hd
      have hm2 : j = j / 4 * 4 ∨ j = j / 4 * 4 + 1 ∨ j = j / 4 * 4 + 2 ∨ j = j / 4 * 4 + 3 := by omega
      rcases hm2 with e | e | e | e
      · rw [e, g1]; exact h1
      · rw [e, g2]; exact h2
      · rw [e, g3]; exact h3
      · rw [e, g4]; exact h4
    · obtain ⟨j, hj, rfl⟩ := List.mem_iff_getElem.1 hx
      rw [← nth_eq hj]
      exact (hlc j (by omega)).2
set_option maxRecDepth 100000 in
theorem trod_Mails {t : TypeId} {fuel : Nat} {v : Value} {x : DataW H × List MemPlace} (ht : Tryz.prog.underlying t = some (.slice 81)) (h : DataW.trod enc Tryz.prog w base spare held fuel t [v] = some x) : ∃ p n c l, v = .slice p n c ∧ n ≤ c ∧ Rd w 4 p n (encQ l) ∧ ∀ q ∈ l, q.I := by
  rcases open_slice ht h with h0 | ⟨a, len, cap, m, n, D, Pl, hcs, hb, hl, hm, hmm, hx, hi⟩
  · obtain ⟨h0, _⟩ := h0; simp at h0; exact ⟨none, 0, 0, [], h0, Nat.le_refl _, Rd.nil _ _ _, fun x hx => nomatch hx⟩
  · simp at hcs
    have hl2 : len ≤ 9223372036854775807 := by unfold maxLen at hm; omega
    have hc1 : Tryz.prog.cellsOf 81 = 4 := by kernel_rfl
    rw [hc1] at hi
    have hS : ∀ i, i < len → ∃ q : Sq, (w.cell? (a.add (i * 4)) = some (.int .i64 q.s) ∧ w.cell? (a.add (i * 4 + 1)) = some (.int .i64 q.r) ∧ w.cell? (a.add (i * 4 + 2)) = some (.int .i64 q.v) ∧ w.cell? (a.add (i * 4 + 3)) = some (.int .i64 q.d)) ∧ q.I := by
      intro i hil
      obtain ⟨cs', hc, ht'⟩ := hi i (by rw [hmm]; split <;> omega)
      obtain ⟨q, e1, hq⟩ := trod_Mail ht'
      obtain ⟨_, hcl, hat⟩ := World.cells?_some hc
      subst e1
      have h0 := hat 0 (by decide)
      have h1 := hat 1 (by decide)
      have h2 := hat 2 (by decide)
      have h3 := hat 3 (by decide)
      rw [Go.Deep.add_add] at h0 h1 h2 h3
      exact ⟨q, ⟨h0, h1, h2, h3⟩, hq⟩
    obtain ⟨l, hll, hlc⟩ := exists_list hS
    refine ⟨some a, len, cap, l, hcs, hl, Rd.of_cells (by decide) (by rw [encQ_len, hll]) hl2 fun j hj => ?_, fun x hx => ?_⟩
    · have hd : j / 4 < len := by omega
      obtain ⟨g1, g2, g3, g4⟩ := encQ_get l (j / 4) (by omega)
      obtain ⟨⟨h1, h2, h3, h4⟩, _⟩ := hlc (j / 4) hd
      have hm2 : j = j / 4 * 4 ∨ j = j / 4 * 4 + 1 ∨ j = j / 4 * 4 + 2 ∨ j = j / 4 * 4 + 3 := by omega
      rcases hm2 with e | e | e | e
      · rw [e, g1]; exact h1
      · rw [e, g2]; exact h2
      · rw [e, g3]; exact h3
      · rw [e, g4]; exact h4
    · obtain ⟨j, hj, rfl⟩ := List.mem_iff_getElem.1 hx
      rw [← nth_eq hj]
      exact (hlc j (by omega)).2
set_option maxRecDepth 100000 in
theorem open_States {r : Reach} {b0 : Nat} {v : Value} {d : DataW H} {p : List MemPlace} (hv : Value.okWide Tryz.prog w r b0 26 v) (h : DataW.Trod enc Tryz.prog w base spare held 26 v d p) : ∃ p n c l, v = .slice p n c ∧ n ≤ c ∧ Rd w 4 p n (encQ l) ∧ ∀ q ∈ l, q.I := by
  obtain ⟨f, hf⟩ := open_top Tryz.underlying26 hv h
  exact trod_States Tryz.underlying26 hf
set_option maxRecDepth 100000 in
theorem open_Mails {r : Reach} {b0 : Nat} {v : Value} {d : DataW H} {p : List MemPlace} (hv : Value.okWide Tryz.prog w r b0 27 v) (h : DataW.Trod enc Tryz.prog w base spare held 27 v d p) : ∃ p n c l, v = .slice p n c ∧ n ≤ c ∧ Rd w 4 p n (encQ l) ∧ ∀ q ∈ l, q.I := by
  obtain ⟨f, hf⟩ := open_top Tryz.underlying27 hv h
  exact trod_Mails Tryz.underlying27 hf
set_option maxRecDepth 100000 in
/-- a query by value -/
theorem open_query {r : Reach} {b0 : Nat} {v : Value} {d : DataW H} {p : List MemPlace} (hv : Value.okWide Tryz.prog w r b0 24 v) (h : DataW.Trod enc Tryz.prog w base spare held 24 v d p) :
    ∃ k f t pw nw cw ws rad most, v = .agg #[.int .i64 k, .int .i64 f, .int .i64 t, .slice pw nw cw, .int .i64 rad, .int .i64 most] ∧ nw ≤ cw ∧ Rd w 1 pw nw (encS ws) ∧ (I64 k ∧ I64 f ∧ I64 t) ∧ I64 rad ∧ I64 most := by
  obtain ⟨cs, rfl, hsz⟩ := okWide_struct Tryz.underlying24 hv
  obtain ⟨fuel, hf⟩ := h
  obtain ⟨xs, n, _, _, hl, hx, hg⟩ := DataW.trod_struct Tryz.underlying24 hf
  have hc : Tryz.prog.cellsOf 24 = 6 := by kernel_rfl
  have hi : Tryz.prog.cellsOf 3 = 1 := by kernel_rfl
  have hs : Tryz.prog.cellsOf 22 = 1 := by kernel_rfl
  rw [hc] at hsz
  obtain ⟨l⟩ := cs
  match l, hsz, xs, hx with
  | [c0, c1, c2, c3, c4, c5], _, [y0, y1, y2, y3, y4, y5], _ =>
    have t0 : DataW.trod enc Tryz.prog w base spare held n 3 [c0] = some y0 := by simpa [hi, Value.cells] using hg 0 _ rfl
    have t1 : DataW.trod enc Tryz.prog w base spare held n 3 [c1] = some y1 := by simpa [hi, Value.cells] using hg 1 _ rfl
    have t2 : DataW.trod enc Tryz.prog w base spare held n 3 [c2] = some y2 := by simpa [hi, Value.cells] using hg 2 _ rfl
    have t3 : DataW.trod enc Tryz.prog w base spare held n 22 [c3] = some y3 := by simpa [hs, Value.cells] using hg 3 _ rfl
    have t4 : DataW.trod enc Tryz.prog w base spare held n 3 [c4] = some y4 := by simpa [hi, Value.cells] using hg 4 _ rfl
    have t5 : DataW.trod enc Tryz.prog w base spare held n 3 [c5] = some y5 := by simpa [hi, Value.cells] using hg 5 _ rfl
    obtain ⟨a0, e0, _, i0⟩ := DataW.trod_int Tryz.underlying3 t0
    obtain ⟨a1, e1, _, i1⟩ := DataW.trod_int Tryz.underlying3 t1
    obtain ⟨a2, e2, _, i2⟩ := DataW.trod_int Tryz.underlying3 t2
    obtain ⟨pw, nw, cw, ws, rfl, hn, hr⟩ := trod_texts Tryz.underlying22 t3
    obtain ⟨a4, e4, _, i4⟩ := DataW.trod_int Tryz.underlying3 t4
    obtain ⟨a5, e5, _, i5⟩ := DataW.trod_int Tryz.underlying3 t5
    simp at e0 e1 e2 e4 e5
    subst e0 e1 e2 e4 e5
    exact ⟨a0, a1, a2, pw, nw, cw, ws, a4, a5, rfl, hn, hr, ⟨i0, i1, i2⟩, i4, i5⟩
end
end Go.Proofs.YtkekibnhmfmhmaaGreat
/- The law ProgDone: of any states and messages a query is done, or not, with just this answer. -/
namespace Go.Proofs.YtkekibnhmfmhmaaGreat
open Go Go.RowKit
/-- what Done tells: an answer whose hits are a row -/
def DoneQ (b : Bool) (d : Int) (F : List (Int × Int)) (dn : Bool) (w : World) (e : Ending) (w' : World) : Prop := ∃ q c', e = .returned (.tuple #[.agg #[.bool b, .int .i64 d, .slice q F.length c'], .bool dn]) ∧ Sep w w' [.own 61 2 q F.length c' (encE F)]
theorem doneQ_nil {b : Bool} {d : Int} {dn : Bool} {w w' : World} {e : Ending} (h : e = .returned (.tuple #[.agg #[.bool b, .int .i64 d, .slice none 0 0], .bool dn])) (hE : Ext w w') : DoneQ b d [] dn w e w' := ⟨none, 0, h, ((Sep.start w).call hE).nilrow _ _⟩
theorem meet_ex (l : List Sq) : ∃ b d, MeetA l b d := by
  have key : ∀ m : Nat, ∃ b d, SeenD l (fun a c => a * l.length + c < m ∧ a < l.length ∧ c < l.length) b d := by
    intro m
    induction m with
    | zero => exact ⟨false, 0, fun _ => ⟨rfl, fun i j s h => by omega⟩, fun h => by cases h⟩
    | succ m ih =>
      obtain ⟨b, d, h⟩ := ih
      by_cases hn : l.length = 0
      · exact ⟨b, d, seen_imp h fun a c h2 => by omega⟩
      · have hq : ∀ a c, (a * l.length + c < m + 1 ∧ a < l.length ∧ c < l.length) → (a = m / l.length ∧ c = m % l.length) ∨ (a * l.length + c < m ∧ a < l.length ∧ c < l.length) := by
          intro a c h2
          by_cases he : a * l.length + c = m
          · left
            subst he
            have hpos : 0 < l.length := by omega
            refine ⟨?_, ?_⟩
            · rw [Nat.mul_comm, Nat.mul_add_div hpos, Nat.div_eq_of_lt h2.2.2]; rfl
            · rw [Nat.mul_comm, Nat.mul_add_mod, Nat.mod_eq_of_lt h2.2.2]
          · right; omega
        by_cases hpa : ∃ s, PairAt l (m / l.length) (m % l.length) s ∧ m / l.length < l.length
        · obtain ⟨s, hs, hlt⟩ := hpa
          have hmod : m % l.length < l.length := Nat.mod_lt _ (by omega)
          by_cases hd : b = true → s ≤ d
          · exact ⟨true, s, seen_put h hlt hmod hq hs hd⟩
          · refine ⟨b, d, seen_skip h hq fun s' hs' => ?_⟩
            have hb : b = true := by
              cases b with
              | true => rfl
              | false => exact absurd (fun e => by cases e) hd
            have h1 := hs.2.2.2
            have h2 := hs'.2.2.2
            refine ⟨hb, ?_⟩
            have : ¬ s ≤ d := fun h3 => hd fun _ => h3
            omega
        · have hq2 : ∀ a c, (a * l.length + c < m + 1 ∧ a < l.length ∧ c < l.length) → ((a * l.length + c < m ∧ a < l.length ∧ c < l.length) ∨ (a = m / l.length ∧ c = m % l.length ∧ a < l.length)) := fun a c h2 => by
            rcases hq a c h2 with ⟨h3, h4⟩ | h3
            · exact .inr ⟨h3, h4, h2.2.1⟩
            · exact .inl h3
          refine ⟨b, d, ⟨fun hb => ⟨(h.1 hb).1, fun a c s hp hps => ?_⟩, fun hb => ⟨(h.2 hb).1, fun a c s hp hps => ?_⟩⟩⟩
          · rcases hq2 a c hp with h3 | ⟨rfl, rfl, h5⟩
            · exact (h.1 hb).2 a c s h3 hps
            · exact hpa ⟨s, hps, h5⟩
          · rcases hq2 a c hp with h3 | ⟨rfl, rfl, h5⟩
            · exact (h.2 hb).2 a c s h3 hps
            · exact absurd ⟨s, hps, h5⟩ hpa
  obtain ⟨b, d, h⟩ := key (l.length * l.length)
  refine ⟨b, d, seen_end (seen_imp h fun a c h2 => ⟨?_, h2⟩)⟩
  have h3 : a * l.length + l.length ≤ l.length * l.length := by
    rw [← Nat.succ_mul]; exact Nat.mul_le_mul_right _ h2.1
  omega
/-- the program's answer, and the document's -/
theorem Done_both (k f t : Int) (pw : Option Addr) (nw cw : Nat) (ws : List ByteArray) (rad most : Int) (pp : Option Addr) (np cp : Nat) (hs : List Hd) (L : List Po) (p : Option Addr) (n c : Nat) (l : List Sq) (pm : Option Addr) (nm cm : Nat) (M : List Sq) (ht : I64 t) (hcw : nw ≤ cw) (hnw : nw ≤ 100) (hok : PoOk L) (hi : ∀ x ∈ l, x.I) (hb : ∀ x ∈ l, -1000000 ≤ x.d ∧ x.d ≤ 1000000) (hn : n ≤ 1000) :
    ∃ b d F dn, ∀ w, RdP w pp np hs L → Rd w 1 pw nw (encS ws) → Rd w 4 p n (encQ l) → Rd w 4 pm nm (encQ M) →
      Calls Tryz.prog 13 #[.agg #[.int .i64 k, .int .i64 f, .int .i64 t, .slice pw nw cw, .int .i64 rad, .int .i64 most], .slice pp np cp, .slice p n c, .slice pm nm cm] w (DoneQ b d F dn w) ∧ Calls Tryz.prog 14 #[.agg #[.int .i64 k, .int .i64 f, .int .i64 t, .slice pw nw cw, .int .i64 rad, .int .i64 most], .slice pp np cp, .slice p n c, .slice pm nm cm] w (DoneQ b d F dn w) := by
  have hi2 : ∀ x ∈ l, I64 x.v ∧ I64 x.d := fun x hx => ⟨(hi x hx).2.2.1, (hi x hx).2.2.2⟩
  by_cases h1 : k = 1
  · subst h1
    obtain ⟨b, d, hA⟩ := meet_ex l
    refine ⟨b, d, [], b || !hasD M 0 || !hasD M 1, fun w hL hw hl hM => ⟨?_, ?_⟩⟩
    · refine (Done1 f t pw nw cw rad most pp np cp p n c l pm nm cm M w hl hM hi2 hb (by omega)).mono ?_
      rintro e w' ⟨b', d', rfl, hE, hA'⟩
      obtain ⟨rfl, rfl⟩ := meetA_uniq hA' hA
      exact doneQ_nil rfl hE
    · refine (RDone1 f t pw nw cw rad most pp np cp p n c l pm nm cm M w hl hM hb).mono ?_
      rintro e w' ⟨b', d', rfl, hE, hA'⟩
      obtain ⟨rfl, rfl⟩ := meetA_uniq hA' hA
      exact doneQ_nil rfl hE
  · by_cases h2 : k = 2
    · subst h2
      refine ⟨atS l t, 0, [], atS l t || decide (nm = 0), fun w hL hw hl hM => ⟨?_, ?_⟩⟩
      · exact (Done2 f t pw nw cw rad most pp np cp p n c l pm nm cm w hl hi2 (by omega) ht).mono fun e w' ⟨h, hE⟩ => doneQ_nil h hE
      · exact (RDone2 f t pw nw cw rad most pp np cp p n c l pm nm cm w hl).mono fun e w' ⟨h, hE⟩ => doneQ_nil h hE
    · by_cases h3 : k = 3
      · subst h3
        by_cases h0 : nm = 0
        · refine ⟨decide (0 < (nearS l (allX L ws) most).length), 0, nearS l (allX L ws) most, true, fun w hL hw hl hM => ⟨?_, ?_⟩⟩
          · exact (Done3 f t pw nw cw ws rad most pp np cp hs L p n c l pm nm cm w hL hok hw hcw hnw hl hn h0).mono fun e w' h => h
          · exact (RDone3 f t pw nw cw ws rad most pp np cp hs L p n c l pm nm cm w hL hok hw hnw hl hn h0).mono fun e w' h => h
        · refine ⟨false, 0, [], false, fun w hL hw hl hM => ⟨?_, ?_⟩⟩
          · exact (Done3m f t pw nw cw rad most pp np cp p n c pm nm cm w (by omega)).mono fun e w' ⟨h, hE⟩ => doneQ_nil h hE
          · exact (RDone3m f t pw nw cw rad most pp np cp p n c pm nm cm w (by omega)).mono fun e w' ⟨h, hE⟩ => doneQ_nil h hE
      · refine ⟨false, 0, [], true, fun w hL hw hl hM => ⟨?_, ?_⟩⟩
        · exact (Done0 k f t pw nw cw rad most pp np cp p n c pm nm cm w h1 h2 h3).mono fun e w' ⟨h, hE⟩ => doneQ_nil h hE
        · exact (RDone0 k f t pw nw cw rad most pp np cp p n c pm nm cm w h1 h2 h3).mono fun e w' ⟨h, hE⟩ => doneQ_nil h hE
set_option maxRecDepth 100000 in
set_option maxHeartbeats 16000000 in
theorem lawDone18 (k f t : Int) (pw : Option Addr) (nw cw : Nat) (ws : List ByteArray) (rad most : Int) (pp : Option Addr) (np cp : Nat) (hs : List Hd) (L : List Po) (px : Option Addr) (nx cx : Nat) (l : List Sq) (pm : Option Addr) (nm cm : Nat) (M : List Sq) (w : World) (hw : Rd w 1 pw nw (encS ws)) (hcw : nw ≤ cw) (ht : I64 t) (hL : RdP w pp np hs L) (hLI : ∀ q ∈ L, ∀ x ∈ q.2, I64 x) (hX : Rd w 4 px nx (encQ l)) (hxI : ∀ x ∈ l, x.I) (hM : Rd w 4 pm nm (encQ M)) :
    Calls Tryz.prog 3 #[.agg #[.int .i64 k, .int .i64 f, .int .i64 t, .slice pw nw cw, .int .i64 rad, .int .i64 most], .slice pp np cp, .slice px nx cx, .slice pm nm cm] w fun e w' => e = .returned (.bool true) ∧ Ext w w' := by
  have S0 := Lib.hid ((Sep.start w).al #[.int .i64 k, .int .i64 f, .int .i64 t, .slice pw nw cw, .int .i64 rad, .int .i64 most] 24 w.heap.size rfl)
  have HBG := Lib.hid (fun W (h : Ext w W) => BigQ k f t pw nw cw ws rad most W (hw.ext h))
  have HFR := Lib.hid (fun W (h : Ext w W) => FarS pp np cp hs L px nx cx pm nm cm W (hL.ext h))
  have HC1 := Lib.hid (fun W (h : Ext w W) => CleanQ px nx cx l W (hX.ext h))
  cases hbig : bigQ ws with
  | true =>
    rw [hbig] at HBG
    clear hw hX hL hM hbig
    go_enter Tryz.func3, Tryz.ntmps3
    go_wp2_with (first | (go_at_call 12; go_must (refine (HC1.out _ S2.out.ext).mono ?_; rintro e w3 ⟨rfl, hw3⟩; have hw3 := hw3.symm; subst hw3)) | (go_at_call 11; go_must (refine (HFR.out _ S1.out.ext).mono ?_; rintro e w2 ⟨rfl, hb⟩; have S2 := Lib.hid (S1.out.call hb); clear a0 a1 a2 a3 a4 a5 az; have a0 := (S2.out.blk 0 rfl).cell 0; have a1 := (S2.out.blk 0 rfl).cell 1; have a2 := (S2.out.blk 0 rfl).cell 2; have a3 := (S2.out.blk 0 rfl).cell 3; have a4 := (S2.out.blk 0 rfl).cell 4; have a5 := (S2.out.blk 0 rfl).cell 5; have az := (S2.out.blk 0 rfl).lt; clear hb)) | (go_at_call 10; go_must (refine (HBG.out _ S0.out.ext).mono ?_; rintro e w1 ⟨rfl, hb⟩; have S1 := Lib.hid (S0.out.call hb); have a0 := (S1.out.blk 0 rfl).cell 0; have a1 := (S1.out.blk 0 rfl).cell 1; have a2 := (S1.out.blk 0 rfl).cell 2; have a3 := (S1.out.blk 0 rfl).cell 3; have a4 := (S1.out.blk 0 rfl).cell 4; have a5 := (S1.out.blk 0 rfl).cell 5; have az := (S1.out.blk 0 rfl).lt; clear hb)))
    go_ret
    exact ⟨rfl, S1.out.ext⟩
  | false =>
    rw [hbig] at HBG
    cases hfar : farS L nx nm with
    | true =>
      rw [hfar] at HFR
      clear hw hX hL hM hbig hfar
      go_enter Tryz.func3, Tryz.ntmps3
      go_wp2_with (first | (go_at_call 12; go_must (refine (HC1.out _ S2.out.ext).mono ?_; rintro e w3 ⟨rfl, hw3⟩; have hw3 := hw3.symm; subst hw3)) | (go_at_call 11; go_must (refine (HFR.out _ S1.out.ext).mono ?_; rintro e w2 ⟨rfl, hb⟩; have S2 := Lib.hid (S1.out.call hb); clear a0 a1 a2 a3 a4 a5 az; have a0 := (S2.out.blk 0 rfl).cell 0; have a1 := (S2.out.blk 0 rfl).cell 1; have a2 := (S2.out.blk 0 rfl).cell 2; have a3 := (S2.out.blk 0 rfl).cell 3; have a4 := (S2.out.blk 0 rfl).cell 4; have a5 := (S2.out.blk 0 rfl).cell 5; have az := (S2.out.blk 0 rfl).lt; clear hb)) | (go_at_call 10; go_must (refine (HBG.out _ S0.out.ext).mono ?_; rintro e w1 ⟨rfl, hb⟩; have S1 := Lib.hid (S0.out.call hb); have a0 := (S1.out.blk 0 rfl).cell 0; have a1 := (S1.out.blk 0 rfl).cell 1; have a2 := (S1.out.blk 0 rfl).cell 2; have a3 := (S1.out.blk 0 rfl).cell 3; have a4 := (S1.out.blk 0 rfl).cell 4; have a5 := (S1.out.blk 0 rfl).cell 5; have az := (S1.out.blk 0 rfl).lt; clear hb)))
      go_ret
      exact ⟨rfl, S2.out.ext⟩
    | false =>
      rw [hfar] at HFR
      cases hc1 : cleanB l with
      | false =>
        rw [hc1] at HC1
        clear hw hX hL hM hbig hfar hc1
        go_enter Tryz.func3, Tryz.ntmps3
        go_wp2_with (first | (go_at_call 12; go_must (refine (HC1.out _ S2.out.ext).mono ?_; rintro e w3 ⟨rfl, hw3⟩; have hw3 := hw3.symm; subst hw3)) | (go_at_call 11; go_must (refine (HFR.out _ S1.out.ext).mono ?_; rintro e w2 ⟨rfl, hb⟩; have S2 := Lib.hid (S1.out.call hb); clear a0 a1 a2 a3 a4 a5 az; have a0 := (S2.out.blk 0 rfl).cell 0; have a1 := (S2.out.blk 0 rfl).cell 1; have a2 := (S2.out.blk 0 rfl).cell 2; have a3 := (S2.out.blk 0 rfl).cell 3; have a4 := (S2.out.blk 0 rfl).cell 4; have a5 := (S2.out.blk 0 rfl).cell 5; have az := (S2.out.blk 0 rfl).lt; clear hb)) | (go_at_call 10; go_must (refine (HBG.out _ S0.out.ext).mono ?_; rintro e w1 ⟨rfl, hb⟩; have S1 := Lib.hid (S0.out.call hb); have a0 := (S1.out.blk 0 rfl).cell 0; have a1 := (S1.out.blk 0 rfl).cell 1; have a2 := (S1.out.blk 0 rfl).cell 2; have a3 := (S1.out.blk 0 rfl).cell 3; have a4 := (S1.out.blk 0 rfl).cell 4; have a5 := (S1.out.blk 0 rfl).cell 5; have az := (S1.out.blk 0 rfl).lt; clear hb)))
        go_ret
        exact ⟨rfl, S2.out.ext⟩
      | true =>
        rw [hc1] at HC1
        have hb1 := clean_facts hc1
        obtain ⟨hwl, _⟩ := bigQ_no hbig
        have hnw : nw ≤ 20 := by rw [hw.nS]; exact hwl
        have hfar2 := hfar
        unfold farS at hfar2
        rw [Bool.or_eq_false_iff, Bool.or_eq_false_iff, decide_eq_false_iff_not] at hfar2
        have hok := poOk_of hfar2.1 hLI
        obtain ⟨b, d, F, dn, HB⟩ := Done_both k f t pw nw cw ws rad most pp np cp hs L px nx cx l pm nm cm M ht hcw (by omega) hok hxI hb1 (by omega)
        have HD1 := Lib.hid (fun W (h : Ext w W) => (HB W (hL.ext h) (hw.ext h) (hX.ext h) (hM.ext h)).1)
        have HD2 := Lib.hid (fun W (h : Ext w W) => (HB W (hL.ext h) (hw.ext h) (hX.ext h) (hM.ext h)).2)
        clear hw hX hL hM hbig hfar hc1 hfar2 hok hb1 hLI HB
        go_enter Tryz.func3, Tryz.ntmps3
        go_wp2_with (first | (go_at_call 16; go_must (refine (Same18 b d q1 q2 F.length F.length c1 c2 F _ (S6.out.rdx 3 rfl) (S6.out.rdx 1 rfl)).mono ?_; rintro e w7 ⟨rfl, hb⟩; have S7 := Lib.hid (S6.out.call hb); clear hb)) | (go_at_call 15; go_must (refine (ProgsG _).mono ?_; rintro e w6 ⟨rfl, hb⟩; have S6 := Lib.hid (S5.out.call hb); have r0 := (S6.out.blk 0 rfl).cell 0; have r1 := (S6.out.blk 0 rfl).cell 1; have r2 := (S6.out.blk 0 rfl).cell 2; have rz := (S6.out.blk 0 rfl).lt; have s0 := (S6.out.blk 2 rfl).cell 0; have s1 := (S6.out.blk 2 rfl).cell 1; have s2 := (S6.out.blk 2 rfl).cell 2; have sz := (S6.out.blk 2 rfl).lt; clear hb)) | (go_at_call 14; go_must (refine (HD2.out _ S4.out.ext).mono ?_; rintro e w5 ⟨q2, c2, rfl, Z⟩; have S5 := Lib.hid ((S4.out.comp Z).al #[.bool b, .int .i64 d, .slice q2 F.length c2] 33 w5.heap.size rfl); clear a0 a1 a2 a3 a4 a5 az; clear Z)) | (go_at_call 13; go_must (refine (HD1.out _ S2.out.ext).mono ?_; rintro e w4 ⟨q1, c1, rfl, Z⟩; have S4 := Lib.hid ((S2.out.comp Z).al #[.bool b, .int .i64 d, .slice q1 F.length c1] 33 w4.heap.size rfl); clear a0 a1 a2 a3 a4 a5 az; have a0 := (S4.out.blk 2 rfl).cell 0; have a1 := (S4.out.blk 2 rfl).cell 1; have a2 := (S4.out.blk 2 rfl).cell 2; have a3 := (S4.out.blk 2 rfl).cell 3; have a4 := (S4.out.blk 2 rfl).cell 4; have a5 := (S4.out.blk 2 rfl).cell 5; have az := (S4.out.blk 2 rfl).lt; clear Z)) | (go_at_call 12; go_must (refine (HC1.out _ S2.out.ext).mono ?_; rintro e w3 ⟨rfl, hw3⟩; have hw3 := hw3.symm; subst hw3)) | (go_at_call 11; go_must (refine (HFR.out _ S1.out.ext).mono ?_; rintro e w2 ⟨rfl, hb⟩; have S2 := Lib.hid (S1.out.call hb); clear a0 a1 a2 a3 a4 a5 az; have a0 := (S2.out.blk 0 rfl).cell 0; have a1 := (S2.out.blk 0 rfl).cell 1; have a2 := (S2.out.blk 0 rfl).cell 2; have a3 := (S2.out.blk 0 rfl).cell 3; have a4 := (S2.out.blk 0 rfl).cell 4; have a5 := (S2.out.blk 0 rfl).cell 5; have az := (S2.out.blk 0 rfl).lt; clear hb)) | (go_at_call 10; go_must (refine (HBG.out _ S0.out.ext).mono ?_; rintro e w1 ⟨rfl, hb⟩; have S1 := Lib.hid (S0.out.call hb); have a0 := (S1.out.blk 0 rfl).cell 0; have a1 := (S1.out.blk 0 rfl).cell 1; have a2 := (S1.out.blk 0 rfl).cell 2; have a3 := (S1.out.blk 0 rfl).cell 3; have a4 := (S1.out.blk 0 rfl).cell 4; have a5 := (S1.out.blk 0 rfl).cell 5; have az := (S1.out.blk 0 rfl).lt; clear hb)))
        go_ret
        exact ⟨rfl, S7.out.ext⟩
end Go.Proofs.YtkekibnhmfmhmaaGreat
/- The last step of a law's row: the result is true, the arguments read as they did, where the call only made memory. -/
namespace Go.Proofs.YtkekibnhmfmhmaaGreat
open Go Go.RowKit Go.WideShapes Go.ChangeShapes
theorem own : ownKnob Tryz.prog.godebug = none := by kernel_rfl
theorem laidOut : laidOutB Tryz.prog = true := by kernel_rfl
set_option maxRecDepth 100000 in
/-- true comes back, the arguments stay: what is left to show is their reading -/
theorem law_post {H : Type} {enc : TypeId × Value → H} {f : Func} {s : ChangeSpec} {apart fresh handsOn again : Bool} {W W' : World} {args : Array Value} {ds : List (DataW H)} {before : List MemPlace}
    (hW : DataW.Whole enc Tryz.prog f.params.toList s.vars apart W args.toList ds [] before) (ht : f.resultTypes = #[4]) (hvars : s.vars = [])
    (hfn : s.fn H (ds ++ []) = { results := [.lit (.bool true)], args := ds })
    (hargs : ∀ sp : Nat → Bool, (∀ p ∈ before, sp p.block = true) → DataW.TrodAll enc Tryz.prog W' 0 sp true f.params.toList args.toList ds before)
    (hb : Below W.heap.size W W') : s.post enc Tryz.prog f apart fresh handsOn again W args (.bool true) W' := by
  have lits : ∀ (b : Nat) (sp : Nat → Bool) (hd : Bool), DataW.TrodAll enc Tryz.prog W' b sp hd f.resultTypes.toList ((Value.bool true).resultList f.resultTypes.size) (s.fn H (ds ++ [])).results [] := by
    intro b sp hd
    rw [hfn, ht]
    exact trodAll_mk1 (shut_bool Tryz.underlying4 true)
  have hold : ∀ sp : Nat → Bool, (∀ p ∈ before, sp p.block = true) → DataW.TrodAll enc Tryz.prog W' 0 sp true f.params.toList args.toList (s.fn H (ds ++ [])).args before := by
    intro sp hsp
    rw [hfn]; exact hargs sp hsp
  have hv : ∀ sp : Nat → Bool, DataW.TrodVars enc Tryz.prog W' sp s.vars (s.fn H (ds ++ [])).vars [] := by
    intro sp; rw [hfn, hvars]; rfl
  have hin : ∀ p ∈ before, p.block < W.heap.size := fun p hp => hW.lt p hp
  have same : before = before ++ [] := by simp
  refine ⟨ds, [], before, [], before, [], hW, lits _ _ _, hold _ (fun p hp => by simpa using hin p hp), hv _, World.keptBut_mono (fun p hp => ⟨hp, .inr (by simpa using hp)⟩) (hb.frame (· ∈ before)), fun _ => ?_⟩
  have hW2 := hW
  obtain ⟨_, _, _, _, _, hz, hn⟩ := hW2
  refine ⟨ok_one (by rw [ht]) rfl (okWide_bool_mk Tryz.underlying4 _), _, _, ([] ++ before) ++ [], ⟨[] ++ before, [], trodAll_append (hold _ (fun _ _ => rfl)) (lits _ _ _), hv _, rfl, ?_, ?_⟩, ?_⟩
  · intro b off hp
    have hp2 : MemPlace.cell b off ∈ before := by simpa using hp
    rw [hb.frozen (hin _ hp2)]
    exact hz b off hp2
  · intro ha
    simpa using hn ha
  · intro p hp _
    simpa using hp
/-- an argument's reading, carried behind the call -/
theorem stays {H : Type} {enc : TypeId × Value → H} {W W' : World} {t : TypeId} {v : Value} {d : DataW H} {ps : List MemPlace} (hr : Tryz.prog.readableRec t = true) (hrow : t < Tryz.prog.types.size) (h : DataW.Trod enc Tryz.prog W 0 (fun _ => true) true t v d ps)
    (hb : Below W.heap.size W W') (hlt : ∀ x ∈ ps, x.block < W.heap.size) {sp : Nat → Bool} (hsp : ∀ x ∈ ps, sp x.block = true) : DataW.Trod enc Tryz.prog W' 0 sp true t v d ps :=
  WideElems.Trod_stays laidOut hr hrow h (fun x hx => hb.same (hlt x hx)) hsp
/-- all readings, one by one -/
theorem trodAll_turn {H : Type} {enc : TypeId × Value → H} {P : Program} {W W' : World} {sp sp' : Nat → Bool} {hd : Bool} (ts : List TypeId) : ∀ {vs : List Value} {ds : List (DataW H)} {ps : List MemPlace}, DataW.TrodAll enc P W 0 sp hd ts vs ds ps →
    (∀ t ∈ ts, ∀ v d p, (∀ x ∈ p, x ∈ ps) → DataW.Trod enc P W 0 sp hd t v d p → DataW.Trod enc P W' 0 sp' hd t v d p) → DataW.TrodAll enc P W' 0 sp' hd ts vs ds ps := by
  induction ts with
  | nil =>
    intro vs ds ps h _
    obtain ⟨rfl, rfl, rfl⟩ := trodAll_nil h
    exact trodAll_mk0
  | cons t ts ih =>
    intro vs ds ps h hk
    obtain ⟨v, vs', d, ds', p, q, rfl, rfl, rfl, h1, h2⟩ := trodAll_cons h
    exact trodAll_cons_mk (hk t (by simp) v d p (fun x hx => by simp [hx]) h1) (ih h2 fun t' ht' v' d' p' hp' h' => hk t' (by simp [ht']) v' d' p' (fun x hx => by simp [hp' x hx]) h')
/-- all arguments' reading, carried behind the call -/
theorem stays_all {H : Type} {enc : TypeId × Value → H} {W W' : World} {ts : List TypeId} {vs : List Value} {ds : List (DataW H)} {ps : List MemPlace} (hr : ts.all (fun t => Tryz.prog.readableRec t && decide (t < Tryz.prog.types.size)) = true)
    (h : DataW.TrodAll enc Tryz.prog W 0 (fun _ => true) true ts vs ds ps) (hb : Below W.heap.size W W') (hlt : ∀ x ∈ ps, x.block < W.heap.size) {sp : Nat → Bool} (hsp : ∀ x ∈ ps, sp x.block = true) : DataW.TrodAll enc Tryz.prog W' 0 sp true ts vs ds ps :=
  trodAll_turn ts h fun t ht v d p hp h1 => by
    have h2 := List.all_eq_true.1 hr t ht
    rw [Bool.and_eq_true, decide_eq_true_eq] at h2
    exact stays h2.1 h2.2 h1 hb (fun x hx => hlt x (hp x hx)) (fun x hx => hsp x (hp x hx))
end Go.Proofs.YtkekibnhmfmhmaaGreat
