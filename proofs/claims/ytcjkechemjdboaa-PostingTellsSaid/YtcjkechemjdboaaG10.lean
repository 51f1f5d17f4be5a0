/- The program's rise and Is. -/
import Derived.Test.YtcjkechemjdboaaG8
import Derived.Test.YtcjkechemjdboaaG2
namespace Go.Proofs.Ytcjkechemjdboaa
open Go Go.RowKit Go.Shelf Go.Lib Go.Sort
theorem Ext.growN {w w' : World} (h : Ext w w') (os : Array Obj) : Ext w (grow w' os) :=
  ⟨h.os, h.tape, h.output, by rw [size_grow]; exact Nat.le_trans h.size (Nat.le_add_right _ _), fun k hk => (heap_grow_old w' os (Nat.lt_of_lt_of_le hk h.size)).trans (h.block k hk)⟩
theorem EdgesExt (x y : Int × Int) (W : World) : Calls Try.prog 111 #[.agg #[.int .i64 x.1, .int .i64 x.2], .agg #[.int .i64 y.1, .int .i64 y.2]] W fun e w' => e = .returned (.int .i64 (cmpE x y)) ∧ Ext W w' :=
  (EdgesLit x y W).mono fun e w' ⟨h, q, os, hw⟩ => ⟨h, by subst hw; exact Ext.growN (Ext.drewN (Below.refl _ _) q) os⟩
theorem cmpE_neg (x y : Int × Int) : cmpE x y < 0 ↔ lessE x y = true := by
  have := ltOf_cmpE x y
  unfold ltOf at this
  rw [← this]; simp
theorem cmpS_neg (x y : ByteArray) : cmpS x y < 0 ↔ sLess x y = true := by
  have := ltOf_cmpS x y
  unfold ltOf at this
  rw [← this]; simp
set_option maxRecDepth 100000 in
set_option maxHeartbeats 1000000 in
theorem RiseE (p : Option Addr) (n c : Nat) (l : List (Int × Int)) (w : World) (hl : Rd w 2 p n (encE l)) :
    Calls Try.prog 91 #[.slice p n c, .agg #[.func (.func 111) #[] #[]]] w fun e w' => e = .returned (.bool (riseB lessE l)) ∧ Ext w w' := by
  have p1 := hl.ptr
  have n1 := hl.small
  have l1 := hl.nE
  have HL := Lib.hid hl; clear hl
  have L1 := Lib.hid l1; clear l1
  go_enter Try.func91, Try.ntmps91
  go_wp2
  go_loopw [5] (fun i wr => ∃ k : Nat, 1 ≤ k ∧ (k ≤ n ∨ k = 1) ∧ i = .int .i64 k ∧ (List.range (k - 1)).all (riseAt lessE l) = true ∧ Ext w wr ∧ wr.cell? ⟨w.heap.size, 0, none⟩ = some (.func (.func 111) #[] #[])) (fun i _ => n + 1 - (intOf i).toNat)
  case atStart => exact ⟨1, Nat.le_refl _, .inr rfl, rfl, rfl, (Below.refl _ _).alloc (Nat.le_refl _) _, cellnew0 _ _ _ _⟩
  case round =>
    obtain ⟨k, hk1, hk, rfl, ha, hb, b0⟩ := hrel
    have HA := Lib.hid ha; clear ha
    have HB := Lib.hid hb; clear hb
    by_cases hlt : k < n
    · have g1 := HB.out.cell (HL.out.cE hlt)
      have g2 := HB.out.cell (HL.out.cE2 hlt)
      have g3 := HB.out.cell (HL.out.cE (k := k - 1) (by omega))
      have g4 := HB.out.cell (HL.out.cE2 (k := k - 1) (by omega))
      have e1 : ∀ x : ExtOf wr, x.val.cell? (adr p (k * 2)) = _ := fun x => x.ext.cell g1
      have e2 : ∀ x : ExtOf wr, x.val.cell? (adr p (k * 2 + 1)) = _ := fun x => x.ext.cell g2
      have e3 : ∀ x : ExtOf wr, x.val.cell? (adr p ((k - 1) * 2)) = _ := fun x => x.ext.cell g3
      have e4 : ∀ x : ExtOf wr, x.val.cell? (adr p ((k - 1) * 2 + 1)) = _ := fun x => x.ext.cell g4
      have e5 : ∀ x : ExtOf wr, x.val.cell? ⟨w.heap.size, 0, none⟩ = _ := fun x => x.ext.cell b0
      have d1 : (0:Int) ≤ k := by omega
      have d2 : (k:Int) < n := by omega
      have d3 : (0:Int) ≤ (k:Int) - 1 := by omega
      have d4 : (1:Int) ≤ (k:Int) := by omega
      have d5 : (k:Int) - 1 < n := by omega
      have d6 : ((k:Int) - 1).toNat = k - 1 := by omega
      have hkk : k - 1 + 1 = k := by omega
      have HKK := Lib.hid hkk; clear hkk
      have HC := fun W' => EdgesExt (nth l (k - 1)) (nth l k) W'
      have hcc := cmpE_neg (nth l (k - 1)) (nth l k)
      generalize cmpE (nth l (k - 1)) (nth l k) = cc at HC hcc
      have HC1 := Lib.hid HC; clear HC
      by_cases hless : cc < 0
      · have hle : decide (0 ≤ cc) = false := by simp; omega
        have hls := Lib.hid (hcc.1 hless)
        clear hcc
        go_wp2
        refine wp_region_ext (by kernel_rfl) (by kernel_rfl) ?_
        repeat (go_big_quiet_step ((go_at_call 111; exact Calls.ext_of (HC1.out _))))
        refine wpQuiet_nil ?_
        rintro w1 ⟨⟨_, hb1⟩, rfl⟩
        go_wp2
        go_roundw
        case rel => exact ⟨k + 1, by omega, .inl (by omega), by go_num, by rw [show k + 1 - 1 = k - 1 + 1 from by omega]; exact range_all_succ _ _ HA.out (by unfold riseAt; rw [HKK.out]; exact hls.out), Ext.trans HB.out hb1, hb1.cell b0⟩
        case measure => simp [intOf]; omega
      · have hle : decide (0 ≤ cc) = true := by simp; omega
        have hls : lessE (nth l (k - 1)) (nth l k) = false := by simpa using (fun h => hless (hcc.2 h))
        have HF := Lib.hid (riseB_no (lt := lessE) (l := l) (k := k - 1) (by rw [HKK.out, ← L1.out]; exact hlt) (by rw [HKK.out]; exact hls))
        clear hcc hls
        go_wp2
        refine wp_region_ext (by kernel_rfl) (by kernel_rfl) ?_
        repeat (go_big_quiet_step ((go_at_call 111; exact Calls.ext_of (HC1.out _))))
        refine wpQuiet_nil ?_
        rintro w1 ⟨⟨_, hb1⟩, rfl⟩
        go_wp2
        go_ret
        exact ⟨ret_bool HF.out.symm, Ext.trans HB.out hb1⟩
    · have HEE := Lib.hid (riseB_end (by rw [← L1.out]; exact hlt) HA.out)
      go_wp2
      go_ret
      exact ⟨ret_bool HEE.out.symm, HB.out⟩
set_option maxRecDepth 100000 in
set_option maxHeartbeats 1000000 in
theorem RiseS (p : Option Addr) (n c : Nat) (l : List ByteArray) (w : World) (hl : Rd w 1 p n (encS l)) :
    Calls Try.prog 90 #[.slice p n c, .agg #[.func (.func 117) #[] #[]]] w fun e w' => e = .returned (.bool (riseB sLess l)) ∧ Ext w w' := by
  have p1 := hl.ptr
  have n1 := hl.small
  have l1 := hl.nS
  have HL := Lib.hid hl; clear hl
  have L1 := Lib.hid l1; clear l1
  go_enter Try.func90, Try.ntmps90
  go_wp2
  go_loopw [5] (fun i wr => ∃ k : Nat, 1 ≤ k ∧ (k ≤ n ∨ k = 1) ∧ i = .int .i64 k ∧ (List.range (k - 1)).all (riseAt sLess l) = true ∧ Ext w wr ∧ wr.cell? ⟨w.heap.size, 0, none⟩ = some (.func (.func 117) #[] #[])) (fun i _ => n + 1 - (intOf i).toNat)
  case atStart => exact ⟨1, Nat.le_refl _, .inr rfl, rfl, rfl, (Below.refl _ _).alloc (Nat.le_refl _) _, cellnew0 _ _ _ _⟩
  case round =>
    obtain ⟨k, hk1, hk, rfl, ha, hb, b0⟩ := hrel
    have HA := Lib.hid ha; clear ha
    have HB := Lib.hid hb; clear hb
    by_cases hlt : k < n
    · have g1 := HB.out.cell (HL.out.cS hlt)
      have g3 := HB.out.cell (HL.out.cS (k := k - 1) (by omega))
      have e1 : ∀ x : ExtOf wr, x.val.cell? (adr p k) = _ := fun x => x.ext.cell g1
      have e3 : ∀ x : ExtOf wr, x.val.cell? (adr p (k - 1)) = _ := fun x => x.ext.cell g3
      have e5 : ∀ x : ExtOf wr, x.val.cell? ⟨w.heap.size, 0, none⟩ = _ := fun x => x.ext.cell b0
      have d1 : (0:Int) ≤ k := by omega
      have d2 : (k:Int) < n := by omega
      have d3 : (0:Int) ≤ (k:Int) - 1 := by omega
      have d4 : (1:Int) ≤ (k:Int) := by omega
      have d5 : (k:Int) - 1 < n := by omega
      have d6 : ((k:Int) - 1).toNat = k - 1 := by omega
      have hkk : k - 1 + 1 = k := by omega
      have HKK := Lib.hid hkk; clear hkk
      have HC : ∀ W', Calls Try.prog 117 #[.string (nth l (k - 1)), .string (nth l k)] W' fun e w' => e = .returned (.int .i64 (cmpS (nth l (k - 1)) (nth l k))) ∧ Ext W' w' := fun W' => (CompareS (nth l (k - 1)) (nth l k) W').mono fun e w' ⟨h, hw⟩ => ⟨h, by subst hw; exact Below.refl _ _⟩
      have hcc := cmpS_neg (nth l (k - 1)) (nth l k)
      generalize cmpS (nth l (k - 1)) (nth l k) = cc at HC hcc
      have HC1 := Lib.hid HC; clear HC
      by_cases hless : cc < 0
      · have hle : decide (0 ≤ cc) = false := by simp; omega
        have hls := Lib.hid (hcc.1 hless)
        clear hcc
        go_wp2
        refine wp_region_ext (by kernel_rfl) (by kernel_rfl) ?_
        repeat (go_big_quiet_step ((go_at_call 117; exact Calls.ext_of (HC1.out _))))
        refine wpQuiet_nil ?_
        rintro w1 ⟨⟨_, hb1⟩, rfl⟩
        go_wp2
        go_roundw
        case rel => exact ⟨k + 1, by omega, .inl (by omega), by go_num, by rw [show k + 1 - 1 = k - 1 + 1 from by omega]; exact range_all_succ _ _ HA.out (by unfold riseAt; rw [HKK.out]; exact hls.out), Ext.trans HB.out hb1, hb1.cell b0⟩
        case measure => simp [intOf]; omega
      · have hle : decide (0 ≤ cc) = true := by simp; omega
        have hls : sLess (nth l (k - 1)) (nth l k) = false := by simpa using (fun h => hless (hcc.2 h))
        have HF := Lib.hid (riseB_no (lt := sLess) (l := l) (k := k - 1) (by rw [HKK.out, ← L1.out]; exact hlt) (by rw [HKK.out]; exact hls))
        clear hcc hls
        go_wp2
        refine wp_region_ext (by kernel_rfl) (by kernel_rfl) ?_
        repeat (go_big_quiet_step ((go_at_call 117; exact Calls.ext_of (HC1.out _))))
        refine wpQuiet_nil ?_
        rintro w1 ⟨⟨_, hb1⟩, rfl⟩
        go_wp2
        go_ret
        exact ⟨ret_bool HF.out.symm, Ext.trans HB.out hb1⟩
    · have HEE := Lib.hid (riseB_end (by rw [← L1.out]; exact hlt) HA.out)
      go_wp2
      go_ret
      exact ⟨ret_bool HEE.out.symm, HB.out⟩
theorem IsLit (p : Option Addr) (n c : Nat) (l : List ByteArray) (w : World) (hl : Rd w 1 p n (encS l)) :
    Calls Try.prog 89 #[.slice p n c] w fun e w' => e = .returned (.bool (!riseB sLess l)) ∧ Ext w w' := by
  have HL := Lib.hid hl; clear hl
  go_enter Try.func89, Try.ntmps89
  go_wp2_with (first
    | (go_at_call 84; go_must ((refine (WordsG _).mono ?_; rintro e w1 ⟨rfl, hb1⟩; have B1 := Lib.hid hb1; clear hb1)))
    | (go_at_call 90; have _t := B1; go_must ((refine (RiseS _ _ _ _ _ (HL.out.ext B1.out)).mono ?_; rintro e w2 ⟨rfl, hb2⟩; have B2 := Lib.hid (Ext.trans B1.out hb2); clear hb2))))
  go_ret
  exact ⟨rfl, B2.out⟩
set_option maxHeartbeats 400000 in
/-- the first row that does not rise, or -1 -/
theorem IndexRise (p : Option Addr) (n c : Nat) (hs : List Hd) (W : List (List ByteArray)) (w : World) (hl : RdW w p n hs W) :
    Calls Try.prog 118 #[.slice p n c, .func (.func 89) #[] #[]] w fun e w' => ∃ i : Int, e = .returned (.int .i64 i) ∧ decide (0 ≤ i) = W.any (fun l => !riseB sLess l) ∧ Ext w w' := by
  have p1 := hl.row.ptr
  have n1 := hl.row.small
  have l1 := hl.nW
  have HL := Lib.hid hl; clear hl
  have L1 := Lib.hid l1; clear l1
  go_enter Try.func118, Try.ntmps118
  go_wp2
  go_loopw [5, 8] (fun _ i wr => ∃ k : Nat, k ≤ n ∧ i = .int .i64 k ∧ (W.take k).any (fun l => !riseB sLess l) = false ∧ Ext w wr) (fun _ i _ => n - (intOf i).toNat)
  case atStart => exact ⟨0, Nat.zero_le _, rfl, rfl, Below.refl _ _⟩
  case round =>
    obtain ⟨k, hk, rfl, ha, hb⟩ := hrel
    have HA := Lib.hid ha; clear ha
    have HB := Lib.hid hb; clear hb
    by_cases hlt : k < n
    · have g1 := HB.out.cell (HL.out.row.cH hlt)
      have Q1 := Lib.hid ((HL.out.each k hlt).ext HB.out)
      by_cases hw : (!riseB sLess (nth W k)) = true
      · have HF := Lib.hid (any_true_at (fun l => !riseB sLess l) W k (by rw [← L1.out]; exact hlt) hw)
        go_wp2_with (go_at_call 89; refine (IsLit _ _ _ _ _ Q1.out).mono ?_; rintro e w' ⟨rfl, hb1⟩; have H1 := Lib.hid (Ext.trans HB.out hb1); clear hb1)
        go_ret
        exact ⟨_, rfl, by rw [HF.out]; simp, H1.out⟩
      · have hw' : (!riseB sLess (nth W k)) = false := by simpa using hw
        have HW' := Lib.hid hw'
        clear hw
        go_wp2_with (go_at_call 89; refine (IsLit _ _ _ _ _ Q1.out).mono ?_; rintro e w' ⟨rfl, hb1⟩; have H1 := Lib.hid (Ext.trans HB.out hb1); clear hb1)
        go_roundw
        case rel => exact ⟨k + 1, by omega, by go_num, any_step _ _ _ (by rw [← L1.out]; exact hlt) HA.out HW'.out, H1.out⟩
        case measure => simp [intOf]; omega
    · have HF := Lib.hid (any_end _ _ _ (by rw [← L1.out]; exact hlt) HA.out)
      go_wp2
      go_ret
      exact ⟨_, rfl, by rw [HF.out]; rfl, HB.out⟩
theorem ContainsRise (p : Option Addr) (n c : Nat) (hs : List Hd) (W : List (List ByteArray)) (w : World) (hl : RdW w p n hs W) :
    Calls Try.prog 92 #[.slice p n c, .func (.func 89) #[] #[]] w fun e w' => e = .returned (.bool (W.any (fun l => !riseB sLess l))) ∧ Ext w w' := by
  have HC := Lib.hid (IndexRise p n c hs W w hl)
  clear hl
  go_enter Try.func92, Try.ntmps92
  go_wp2_with (go_at_call 118; refine HC.out.mono ?_; rintro e w' ⟨i, rfl, hi, hb⟩; have HI := Lib.hid hi; have HB := Lib.hid hb; clear hi hb)
  go_ret
  exact ⟨ret_bool HI.out, HB.out⟩
set_option maxRecDepth 100000 in
set_option maxHeartbeats 2000000 in
theorem IsG (N : Int) (pe : Option Addr) (ne ce : Nat) (pw : Option Addr) (nw cw : Nat) (E : List (Int × Int)) (hs : List Hd) (W : List (List ByteArray)) (w : World) (hE : Rd w 2 pe ne (encE E)) (hW : RdW w pw nw hs W) (hz : SzW W) :
    Calls Try.prog 56 #[.agg #[.int .i64 N, .slice pe ne ce, .slice pw nw cw]] w fun e w' => e = .returned (.bool (isB N E W)) ∧ Ext w w' := by
  have hu : isB N E W = (checkB N E W && riseB lessE E && !W.any (fun l => !riseB sLess l)) := by unfold isB; rw [← List.all_eq_not_any_not]
  rw [hu]
  have HCk := Lib.hid (fun W1 (h : Ext w W1) => CheckG N pe ne ce pw nw cw E hs W W1 (hE.ext h) (hW.ext h) hz)
  have HRi := Lib.hid (fun W1 (h : Ext w W1) => RiseE pe ne ce E W1 (hE.ext h))
  have HCo := Lib.hid (fun W1 (h : Ext w W1) => ContainsRise pw nw cw hs W W1 (hW.ext h))
  clear hE hW hz hu
  generalize checkB N E W = b1 at *
  generalize riseB lessE E = b2 at *
  generalize W.any (fun l => !riseB sLess l) = b3 at *
  have hx : Ext w (w.alloc (.cells #[.int .i64 N, .slice pe ne ce, .slice pw nw cw] 25)) := (Below.refl _ _).alloc (Nat.le_refl _) _
  have c0 : (w.alloc (.cells #[.int .i64 N, .slice pe ne ce, .slice pw nw cw] 25)).cell? ⟨w.heap.size, 0, none⟩ = some (.int .i64 N) := by simp
  have c1 : (w.alloc (.cells #[.int .i64 N, .slice pe ne ce, .slice pw nw cw] 25)).cell? ⟨w.heap.size, 1, none⟩ = some (.slice pe ne ce) := by simp
  have c2 : (w.alloc (.cells #[.int .i64 N, .slice pe ne ce, .slice pw nw cw] 25)).cell? ⟨w.heap.size, 2, none⟩ = some (.slice pw nw cw) := by simp
  cases b1 <;> cases b2 <;> cases b3 <;>
  (go_enter Try.func56, Try.ntmps56
   go_wp2
   obtain ⟨wo, hwo⟩ : ∃ wo, wo = w.alloc (.cells #[.int .i64 N, .slice pe ne ce, .slice pw nw cw] 25) := ⟨_, rfl⟩
   rw [← hwo] at hx c0 c1 c2 ⊢
   have HX := Lib.hid hx
   have e0 : ∀ x : ExtOf wo, x.val.cell? ⟨w.heap.size, 0, none⟩ = _ := fun x => x.ext.cell c0
   have e1 : ∀ x : ExtOf wo, x.val.cell? ⟨w.heap.size, 1, none⟩ = _ := fun x => x.ext.cell c1
   have e2 : ∀ x : ExtOf wo, x.val.cell? ⟨w.heap.size, 2, none⟩ = _ := fun x => x.ext.cell c2
   refine wp_region_ext (by kernel_rfl) (by kernel_rfl) ?_
   repeat (go_big_quiet_step ((first | (go_at_call 80; exact Calls.ext_of (HCk.out _ (Ext.trans HX.out (ExtOf.ext _)))) | (go_at_call 82; exact Calls.ext_of (EdgesG _)) | (go_at_call 91; exact Calls.ext_of (HRi.out _ (Ext.trans HX.out (ExtOf.ext _)))) | (go_at_call 92; exact Calls.ext_of (HCo.out _ (Ext.trans HX.out (ExtOf.ext _)))))))
   refine wpQuiet_nil ?_
   rintro w1 ⟨⟨_, hb1⟩, rfl⟩
   go_wp2
   go_ret
   exact ⟨rfl, Ext.trans HX.out hb1⟩)
end Go.Proofs.Ytcjkechemjdboaa
