import Derived.Test.YtcjkechemjdboaaR2
namespace Go.Proofs.Ytcjkechemjdboaa
open Go Go.RowKit
/-- a box that holds a graph -/
structure GBox (w : World) (b : Nat) (N : Int) (pe : Option Addr) (ne ce : Nat) (pw : Option Addr) (nw cw : Nat) : Prop where
  c0 : w.cell? ⟨b, 0, none⟩ = some (.int .i64 N)
  c1 : w.cell? ⟨b, 1, none⟩ = some (.slice pe ne ce)
  c2 : w.cell? ⟨b, 2, none⟩ = some (.slice pw nw cw)
section
variable {w w' : World} {b : Nat} {N : Int} {pe : Option Addr} {ne ce : Nat} {pw : Option Addr} {nw cw : Nat}
theorem GBox.ext (h : GBox w b N pe ne ce pw nw cw) (he : Ext w w') : GBox w' b N pe ne ce pw nw cw := ⟨he.cell h.c0, he.cell h.c1, he.cell h.c2⟩
theorem GBox.new (w : World) (t : TypeId) : GBox (w.alloc (.cells #[.int .i64 N, .slice pe ne ce, .slice pw nw cw] t)) w.heap.size N pe ne ce pw nw cw := ⟨by simp, by simp, by simp⟩
theorem GBox.alloc (h : GBox w b N pe ne ce pw nw cw) (o : Obj) : GBox (w.alloc o) b N pe ne ce pw nw cw := h.ext ((Below.refl _ _).alloc (Nat.le_refl _) o)
end
def eqE (x y : Int × Int) : Bool := decide (x = y)
theorem eqEdge (a b c d : Int) (w : World) : (binOp .eql 71 (.agg #[.int .i64 a, .int .i64 b]) (.agg #[.int .i64 c, .int .i64 d])).run Try.prog w = .ok (.bool (eqE (a, b) (c, d))) w := by
  have u3 := Try.underlying3
  have a3 := Try.isAgg3
  have z3 := Try.sizeOf3
  have hS : Try.prog.underlying 71 = some (.struct (Try.prog.fieldsOf 71)) := by kernel_rfl
  have hp : Try.prog.stoodInHeld 71 = false := by kernel_rfl
  rw [run_eql_struct, show (10000 : Nat) = 9999 + 1 from rfl, run_equalIn_agg w 9999 71 _ _ hS hp]
  simp only [Program.fieldsOf, Try.underlying71]
  go_simp
  by_cases h1 : a = c <;> by_cases h2 : b = d <;> simp [h1, h2, eqE]
theorem neqEdge (a b c d : Int) (w : World) : (binOp .neq 71 (.agg #[.int .i64 a, .int .i64 b]) (.agg #[.int .i64 c, .int .i64 d])).run Try.prog w = .ok (.bool (!eqE (a, b) (c, d))) w := by
  have h := eqEdge a b c d w
  rw [run_eql_struct] at h
  rw [run_neq_struct]
  generalize (Op.equalIn 10000 71 (.agg #[.int .i64 a, .int .i64 b]) (.agg #[.int .i64 c, .int .i64 d])).run Try.prog w = r at h ⊢
  cases r with
  | ok x w1 => simp only [Result.andThen_ok, Result.ok.injEq, Value.bool.injEq] at h ⊢; rw [h.1, h.2]; simp
  | halt x w1 => simp [Result.andThen] at h
theorem guardEdge (op : BinOp) (x y : Operand) (xs ys : Array Value) (w : World) : (eqGuard op 71 x y (.agg xs) (.agg ys)).run Try.prog w = .ok () w := run_eqGuard_agg w op 71 x y xs ys (by kernel_rfl)
attribute [local go_sem ↓] eqEdge neqEdge guardEdge
set_option maxHeartbeats 1000000 in
theorem Same02 (N : Int) (pe : Option Addr) (ne ce : Nat) (pw : Option Addr) (nw cw : Nat) (E : List (Int × Int)) (hs : List Hd) (W : List (List ByteArray))
    (N2 : Int) (pe2 : Option Addr) (ne2 ce2 : Nat) (pw2 : Option Addr) (nw2 cw2 : Nat) (E2 : List (Int × Int)) (hs2 : List Hd) (W2 : List (List ByteArray)) (w : World)
    (hE : Rd w 2 pe ne (encE E)) (hW : RdW w pw nw hs W) (hE2 : Rd w 2 pe2 ne2 (encE E2)) (hW2 : RdW w pw2 nw2 hs2 W2) :
    Calls Try.prog 19 #[.agg #[.int .i64 N, .slice pe ne ce, .slice pw nw cw], .agg #[.int .i64 N2, .slice pe2 ne2 ce2, .slice pw2 nw2 cw2]] w fun e w' => e = .returned (.bool (sameB N E W N2 E2 W2)) ∧ Ext w w' := by
  have p1 := hE.ptr
  have p2 := hW.row.ptr
  have p3 := hE2.ptr
  have p4 := hW2.row.ptr
  have n1 := hE.small
  have n2 := hW.row.small
  have n3 := hE2.small
  have n4 := hW2.row.small
  have HE := Lib.hid hE; clear hE
  have HW := Lib.hid hW; clear hW
  have HE2 := Lib.hid hE2; clear hE2
  have HW2 := Lib.hid hW2; clear hW2
  by_cases hne : N = N2 ∧ ne = ne2 ∧ nw = nw2
  · obtain ⟨rfl, rfl, rfl⟩ := hne
    have hl := Lib.hid (HE.out.nE.symm.trans HE2.out.nE)
    have hl2 := Lib.hid (HW.out.nW.symm.trans HW2.out.nW)
    have hl3 := Lib.hid HE.out.nE
    have hl4 := Lib.hid HW.out.nW
    go_enter Try.func19, Try.ntmps19
    go_wp2
    go_loopw [5] (fun i wr => ∃ k : Nat, k ≤ ne ∧ i = .int .i64 k ∧ E.take k = E2.take k ∧ Ext w wr ∧ GBox wr w.heap.size N pe ne ce pw nw cw ∧ GBox wr (w.heap.size + 1) N pe2 ne ce2 pw2 nw cw2) (fun i _ => ne - (intOf i).toNat)
    case atStart => exact ⟨0, Nat.zero_le _, rfl, rfl, ((Below.refl _ _).alloc (Nat.le_refl _) _).alloc (by simp) _, (GBox.new _ _).alloc _, by have := GBox.new (N := N) (pe := pe2) (ne := ne) (ce := ce2) (pw := pw2) (nw := nw) (cw := cw2) (w.alloc (.cells #[.int .i64 N, .slice pe ne ce, .slice pw nw cw] 25)) 25; simpa using this⟩
    case round =>
      obtain ⟨k, hk, rfl, he, hb, gb1, gb2⟩ := hrel
      have HQ := Lib.hid he; clear he
      have HB := Lib.hid hb; clear hb
      have G1 := Lib.hid gb1
      have G2 := Lib.hid gb2
      obtain ⟨b0, b1, b2⟩ := gb1
      obtain ⟨b3, b4, b5⟩ := gb2
      by_cases hlt : k < ne
      · have g1 := HB.out.cell (HE.out.cE hlt)
        have g2 := HB.out.cell (HE.out.cE2 hlt)
        have g3 := HB.out.cell (HE2.out.cE hlt)
        have g4 := HB.out.cell (HE2.out.cE2 hlt)
        have d1 : (0:Int) ≤ k := by omega
        have d2 : (k:Int) < ne := by omega
        by_cases hn : nth E k = nth E2 k
        · have hq : eqE (nth E k) (nth E2 k) = true := by simp [eqE, hn]
          have HN := Lib.hid hn; clear hn
          go_wp2
          go_quiet (fail)
          go_wp2
          go_roundw
          case rel => exact ⟨k + 1, by omega, by go_num, eq_step hl.out (by rw [← hl3.out]; exact hlt) HQ.out HN.out, HB.out.drewN _, G1.out.ext ((Ext.refl _).drewN _), G2.out.ext ((Ext.refl _).drewN _)⟩
          case measure => simp [intOf]; omega
        · have hq : eqE (nth E k) (nth E2 k) = false := by simp [eqE, hn]
          have HN := Lib.hid hn; clear hn
          go_wp2
          go_quiet (fail)
          go_wp2
          go_ret
          exact ⟨ret_bool (by unfold sameB; rw [decide_eq_false]; exact fun h => eq_no hl.out (by rw [← hl3.out]; exact hlt) HN.out h.2.1), HB.out.drewN _⟩
      · have HEE := Lib.hid (eq_end hl.out (by rw [← hl3.out]; exact hlt) HQ.out)
        go_wp2
        clear hlt HQ hk
        go_loopw [6] (fun i wr => ∃ k : Nat, k ≤ nw ∧ i = .int .i64 k ∧ W.take k = W2.take k ∧ Ext w wr ∧ GBox wr w.heap.size N pe ne ce pw nw cw ∧ GBox wr (w.heap.size + 1) N pe2 ne ce2 pw2 nw cw2) (fun i _ => nw - (intOf i).toNat)
        case atStart => exact ⟨0, Nat.zero_le _, rfl, rfl, HB.out, G1.out, G2.out⟩
        case round =>
          clear HB G1 G2 b0 b1 b2 b3 b4 b5
          obtain ⟨k, hk, rfl, he, hb, gb1, gb2⟩ := hrel
          have HQ := Lib.hid he; clear he
          have HB := Lib.hid hb; clear hb
          have G1 := Lib.hid gb1
          have G2 := Lib.hid gb2
          obtain ⟨b0, b1, b2⟩ := gb1
          obtain ⟨b3, b4, b5⟩ := gb2
          by_cases hlt : k < nw
          · have g1 := HB.out.cell (HW.out.row.cH hlt)
            have g2 := HB.out.cell (HW2.out.row.cH hlt)
            have e1 : ∀ x : ExtOf wr, x.val.cell? (adr pw k) = _ := fun x => x.ext.cell g1
            have e2 : ∀ x : ExtOf wr, x.val.cell? (adr pw2 k) = _ := fun x => x.ext.cell g2
            have e3 : ∀ x : ExtOf wr, x.val.cell? ⟨w.heap.size, 2, none⟩ = _ := fun x => x.ext.cell b2
            have e4 : ∀ x : ExtOf wr, x.val.cell? ⟨w.heap.size + 1, 2, none⟩ = _ := fun x => x.ext.cell b5
            have q1 := Lib.hid ((HW.out.each k hlt).ext HB.out)
            have q2 := Lib.hid ((HW2.out.each k hlt).ext HB.out)
            have d1 : (0:Int) ≤ k := by omega
            have d2 : (k:Int) < nw := by omega
            by_cases hn : nth W k = nth W2 k
            · have hq : decide (nth W k = nth W2 k) = true := by simp [hn]
              have HN := Lib.hid hn; clear hn
              go_wp2
              refine wp_region_ext (by kernel_rfl) (by kernel_rfl) ?_
              repeat (go_big_quiet_step ((go_at_call 60; exact Calls.ext_of (Texts01 _ _ _ _ _ _ _ _ _ (q1.out.ext (ExtOf.ext _)) (q2.out.ext (ExtOf.ext _))))))
              refine wpQuiet_nil ?_
              rintro w1 ⟨⟨_, hb1⟩, rfl⟩
              go_wp2
              go_roundw
              case rel => exact ⟨k + 1, by omega, by go_num, eq_step hl2.out (by rw [← hl4.out]; exact hlt) HQ.out HN.out, Ext.trans HB.out hb1, G1.out.ext hb1, G2.out.ext hb1⟩
              case measure => simp [intOf]; omega
            · have hq : decide (nth W k = nth W2 k) = false := by simp [hn]
              have HN := Lib.hid hn; clear hn
              go_wp2
              refine wp_region_ext (by kernel_rfl) (by kernel_rfl) ?_
              repeat (go_big_quiet_step ((go_at_call 60; exact Calls.ext_of (Texts01 _ _ _ _ _ _ _ _ _ (q1.out.ext (ExtOf.ext _)) (q2.out.ext (ExtOf.ext _))))))
              refine wpQuiet_nil ?_
              rintro w1 ⟨⟨_, hb1⟩, rfl⟩
              go_wp2
              go_ret
              exact ⟨ret_bool (by unfold sameB; rw [decide_eq_false]; exact fun h => eq_no hl2.out (by rw [← hl4.out]; exact hlt) HN.out h.2.2), Ext.trans HB.out hb1⟩
          · have HWW := Lib.hid (eq_end hl2.out (by rw [← hl4.out]; exact hlt) HQ.out)
            go_wp2
            go_ret
            exact ⟨ret_bool (by unfold sameB; rw [decide_eq_true]; exact ⟨rfl, HEE.out, HWW.out⟩), HB.out⟩
  · have hE1 := HE.out.nE
    have hE2 := HE2.out.nE
    have hW1 := HW.out.nW
    have hW3 := HW2.out.nW
    have hfin : sameB N E W N2 E2 W2 = false := by
      unfold sameB; rw [decide_eq_false]
      rintro ⟨rfl, rfl, rfl⟩
      exact hne ⟨rfl, by omega, by omega⟩
    have HF := Lib.hid hfin; clear hfin hE1 hE2 hW1 hW3
    have h3 : ∀ o1 o2 : Obj, Ext w ((w.alloc o1).alloc o2) := fun o1 o2 => ((Below.refl _ _).alloc (Nat.le_refl _) _).alloc (by simp) _
    by_cases h1 : N = N2
    · subst h1
      have t1 : (N != N) = false := by simp
      by_cases h2 : ne = ne2
      · subst h2
        have h3' : nw ≠ nw2 := fun h => hne ⟨rfl, rfl, h⟩
        have t2 : ((nw : Int) != (nw2 : Int)) = true := by rw [bne_iff_ne]; omega
        clear hne h3'
        go_enter Try.func19, Try.ntmps19
        go_wp2
        go_ret
        exact ⟨ret_bool HF.out.symm, h3 _ _⟩
      · have t2 : ((ne : Int) != (ne2 : Int)) = true := by rw [bne_iff_ne]; omega
        clear hne h2
        go_enter Try.func19, Try.ntmps19
        go_wp2
        go_ret
        exact ⟨ret_bool HF.out.symm, h3 _ _⟩
    · have t1 : (N != N2) = true := by rw [bne_iff_ne]; exact h1
      clear hne h1
      go_enter Try.func19, Try.ntmps19
      go_wp2
      go_ret
      exact ⟨ret_bool HF.out.symm, h3 _ _⟩
end Go.Proofs.Ytcjkechemjdboaa
