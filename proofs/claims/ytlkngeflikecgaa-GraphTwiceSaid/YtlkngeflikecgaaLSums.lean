/- The law GraphSums: of all places both degrees' sums are how many edges Normal has. -/
import Derived.Test.YtlkngeflikecgaaG12
import Derived.Test.YtlkngeflikecgaaR4
namespace Go.Proofs.Ytlkngeflikecgaa
open Go Go.RowKit Go.Shelf Go.Lib Go.Sort
theorem szW_of_big {E : List (Int × Int)} {W : List (List ByteArray)} (h : bigB E W = false) : SzW W := by
  unfold bigB at h
  simp only [Bool.or_eq_false_iff, Bool.and_eq_false_iff] at h
  obtain ⟨⟨⟨h1, h2⟩, _⟩, _⟩ := h
  have hw : W.length ≤ 250 := by simpa using h2
  have hb : W.any badRow = false := by
    rcases h1 with h1 | h1
    · simp at h1; omega
    · exact h1
  intro l hl s hs
  have h3 := List.any_eq_false.1 hb l hl
  unfold badRow at h3
  simp only [Bool.or_eq_true, not_or, Bool.not_eq_true] at h3
  have h4 := List.any_eq_false.1 h3.2 s hs
  unfold longB at h4
  simp at h4
  omega
/-- sums over the first places -/
def sumTo (f : Nat → Nat) : Nat → Nat
  | 0 => 0
  | k + 1 => sumTo f k + f k
theorem countP_split {α : Type} (p q r : α → Bool) (h : ∀ x, (r x = true) ↔ (p x = true ∨ q x = true)) (hd : ∀ x, p x = true → q x = true → False) (l : List α) : l.countP r = l.countP p + l.countP q := by
  induction l with
  | nil => rfl
  | cons a l ih =>
    rw [List.countP_cons, List.countP_cons, List.countP_cons, ih]
    have h1 := h a
    have h2 := hd a
    cases hp : p a <;> cases hq : q a <;> cases hr : r a <;> simp_all <;> omega
theorem sumTo_out (D : List (Int × Int)) (k : Nat) : sumTo (fun v => outN D (v : Int)) k = D.countP fun x => decide (0 ≤ x.1 ∧ x.1 < (k : Int)) := by
  induction k with
  | zero => unfold sumTo; symm; rw [List.countP_eq_zero]; intro x _; simp
  | succ k ih =>
    unfold sumTo
    rw [ih]
    symm
    unfold outN
    refine countP_split _ _ _ (fun x => ?_) (fun x => ?_) D
    · simp; omega
    · simp; omega
theorem sumTo_in (D : List (Int × Int)) (k : Nat) : sumTo (fun v => inN D (v : Int)) k = D.countP fun x => decide (0 ≤ x.2 ∧ x.2 < (k : Int)) := by
  induction k with
  | zero => unfold sumTo; symm; rw [List.countP_eq_zero]; intro x _; simp
  | succ k ih =>
    unfold sumTo
    rw [ih]
    symm
    unfold inN
    refine countP_split _ _ _ (fun x => ?_) (fun x => ?_) D
    · simp; omega
    · simp; omega
theorem sums_le (D : List (Int × Int)) (k : Nat) : sumTo (fun v => outN D (v : Int)) k ≤ D.length ∧ sumTo (fun v => inN D (v : Int)) k ≤ D.length := by
  rw [sumTo_out, sumTo_in]; exact ⟨List.countP_le_length, List.countP_le_length⟩
theorem sums_all (D : List (Int × Int)) (k : Nat) (h : ∀ x ∈ D, edgeOk k x = true) : sumTo (fun v => outN D (v : Int)) k = D.length ∧ sumTo (fun v => inN D (v : Int)) k = D.length := by
  rw [sumTo_out, sumTo_in]
  constructor
  · rw [List.countP_eq_length]; intro x hx; have := h x hx; simp [edgeOk] at this ⊢; omega
  · rw [List.countP_eq_length]; intro x hx; have := h x hx; simp [edgeOk] at this ⊢; omega
theorem deg_in {N : Int} {E : List (Int × Int)} {W : List (List ByteArray)} (hc : checkB N E W = true) (k : Nat) (hk : (k : Int) < N) : degO N E W k = outN (putAll lessE E) k ∧ degI N E W k = inN (putAll lessE E) k ∧ placeB N E W k = true := by
  have hp : placeB N E W k = true := by unfold placeB; rw [hc]; simp [hk]
  exact ⟨by unfold degO; rw [hp]; rfl, by unfold degI; rw [hp]; rfl, hp⟩
set_option maxRecDepth 100000 in
set_option maxHeartbeats 4000000 in
theorem lawSums (N : Int) (pe : Option Addr) (ne ce : Nat) (pw : Option Addr) (nw cw : Nat) (E : List (Int × Int)) (hs : List Hd) (W : List (List ByteArray)) (w : World) (hE : Rd w 2 pe ne (encE E)) (hW : RdW w pw nw hs W) : Calls Try.prog 5 #[.agg #[.int .i64 N, .slice pe ne ce, .slice pw nw cw]] w fun e w' => e = .returned (.bool true) ∧ Ext w w' := by
  have HBig := Lib.hid (fun W1 (h : Ext w W1) => Big02 N pe ne ce pw nw cw E hs W W1 (hE.ext h) (hW.ext h))
  have hx : Ext w (w.alloc (.cells #[.int .i64 N, .slice pe ne ce, .slice pw nw cw] 25)) := Ext.alloc (Below.refl _ _) _
  have hblk := Lib.hid (Blk.new w 25 #[.int .i64 N, .slice pe ne ce, .slice pw nw cw])
  by_cases hbig : bigB E W = true
  · rw [hbig] at HBig
    clear hE hW
    go_enter Try.func5, Try.ntmps5
    go_wp2_with (go_at_call 8; go_must (refine (HBig.out _ hx).mono ?_; rintro e w1 ⟨rfl, hb1⟩; have B1 := Lib.hid (Ext.trans hx hb1); clear hb1))
    go_ret
    exact ⟨rfl, B1.out⟩
  · have hbig' : bigB E W = false := by simpa using hbig
    have hz := szW_of_big hbig'
    rw [hbig'] at HBig
    clear hbig hbig'
    have HD := Lib.hid (fun W1 (h : Ext w W1) v => DegreesG N pe ne ce pw nw cw E hs W W1 v (hE.ext h) (hW.ext h) hz)
    by_cases hc : checkB N E W = true
    · have HN := Lib.hid (fun W1 (h : Ext w W1) => NormalG N pe ne ce pw nw cw E hs W W1 (hE.ext h) (hW.ext h) hz)
      have hcc : normC N E W = 0 := by unfold normC; rw [hc]; rfl
      have hnE : normE N E W = putAll lessE E := by unfold normE; rw [hc]; rfl
      have hnN : normN N E W = N := by unfold normN; rw [hc]; rfl
      rw [hcc, hnE, hnN] at HN
      obtain ⟨h1, h2, h3, h4, h5, _⟩ := checkB_parts hc
      have hpl : placeB N E W N = false := by unfold placeB; simp
      have HD2 := Lib.hid (HD.out · · N)
      rw [hpl] at HD2
      have hall : ∀ x ∈ putAll lessE E, edgeOk N x = true := fun x hx => List.all_eq_true.1 h5 x ((putAll_mem stoE E x).1 hx)
      have hl := putAll_len lessE E
      obtain ⟨n, rfl⟩ : ∃ n : Nat, N = (n : Int) := ⟨N.toNat, by omega⟩
      have hdeg := Lib.hid (fun k hk => deg_in hc k hk)
      have HSum := Lib.hid (sums_all (putAll lessE E) n hall)
      have hlD : (putAll lessE E).length ≤ 2000 := by omega
      generalize normW n E W = W2 at HN
      clear hE hW hcc hnE hnN h3 h4 h5 hpl hall hl hz hc
      generalize degO n E W = dO at *
      generalize degI n E W = dI at *
      generalize placeB n E W = dP at *
      generalize putAll lessE E = D at *
      go_enter Try.func5, Try.ntmps5
      go_wp2_with (first
        | (go_at_call 10; have _t := B1; go_must (refine (HN.out _ B1.out).mono ?_; rintro e w2 ⟨v', rfl, ⟨q, cq, qh, ch, hs', rfl, own, ow⟩, hb2⟩; have B2 := Lib.hid (Ext.trans B1.out hb2); have K2 := Lib.hid (K1.out.ext hb2); have z2 : w.heap.size < w2.heap.size := K2.out.lt; clear own ow hb2 c0 c1 c2; have c0 := K2.out.cell 0; have c1 := K2.out.cell 1; have c2 := K2.out.cell 2))
        | (go_at_call 8; go_must (refine (HBig.out _ hx).mono ?_; rintro e w1 ⟨rfl, hb1⟩; have B1 := Lib.hid (Ext.trans hx hb1); have K1 := Lib.hid (hblk.out.ext hb1); clear hb1; have c0 := K1.out.cell 0; have c1 := K1.out.cell 1; have c2 := K1.out.cell 2)))
      obtain ⟨X, hX⟩ : ∃ X, X = w2.alloc (.cells #[.int .i64 n, .slice q D.length cq, .slice qh W2.length ch] 25) := ⟨_, rfl⟩
      have BX : Blk X w2.heap.size 25 #[.int .i64 n, .slice q D.length cq, .slice qh W2.length ch] := by rw [hX]; exact Blk.new _ _ _
      have KX : Blk X w.heap.size 25 #[.int .i64 n, .slice pe ne ce, .slice pw nw cw] := by rw [hX]; exact K2.out.alloc _
      have EX : Ext w X := by rw [hX]; exact Ext.alloc B2.out _
      rw [← hX]
      clear hX c0 c1 c2 K1 K2
      have BX0 := Lib.hid BX
      have KX0 := Lib.hid KX
      have EX0 := Lib.hid EX
      clear BX KX EX
      go_loopw [5, 6, 7, 8, 9, 10] (fun x y i _ _ _ wr => ∃ k : Nat, k ≤ n ∧ i = .int .i64 k ∧ x = .int .i64 (sumTo (fun v => outN D (v : Int)) k) ∧ y = .int .i64 (sumTo (fun v => inN D (v : Int)) k) ∧ Ext X wr) (fun _ _ i _ _ _ _ => n - (intOf i).toNat)
      case atStart => exact ⟨0, Nat.zero_le _, rfl, rfl, rfl, Below.refl _ _⟩
      case round =>
        obtain ⟨k, hk, rfl, rfl, rfl, hb⟩ := hrel
        have BW := BX0.out.ext hb
        have KW := KX0.out.ext hb
        have EW := Lib.hid (Ext.trans EX0.out hb)
        have HB := Lib.hid hb; clear hb
        have c0 := KW.cell 0
        have c1 := KW.cell 1
        have c2 := KW.cell 2
        have d0 := BW.cell 0
        have d1 := BW.cell 1
        have d2 := BW.cell 2
        have BW0 := Lib.hid BW; clear BW
        have KW0 := Lib.hid KW; clear KW
        by_cases hlt : k < n
        · obtain ⟨g1, g2, g3⟩ := hdeg.out k (by omega)
          have hd := Lib.hid (HD.out wr EW.out k)
          rw [g1, g2, g3] at hd
          have hs1 := (sums_le D (k + 1)).1
          have hs2 := (sums_le D (k + 1)).2
          have u1 : sumTo (fun v => outN D (v : Int)) (k + 1) = sumTo (fun v => outN D (v : Int)) k + outN D k := rfl
          have u2 : sumTo (fun v => inN D (v : Int)) (k + 1) = sumTo (fun v => inN D (v : Int)) k + inN D k := rfl
          rw [u1] at hs1
          rw [u2] at hs2
          have U1 := Lib.hid u1; clear u1
          have U2 := Lib.hid u2; clear u2
          clear g1 g2 g3
          go_wp2_with (go_at_call 20; go_must (refine hd.out.mono ?_; rintro e w3 ⟨rfl, hb3⟩; have B3 := Lib.hid (Ext.trans HB.out hb3); clear hb3))
          go_roundw
          case rel => exact ⟨k + 1, by omega, by go_num, by rw [U1.out]; go_num, by rw [U2.out]; go_num, B3.out⟩
          case measure => simp [intOf]; omega
        · have hkn : k = n := by omega
          subst hkn
          have hd := Lib.hid (HD2.out wr EW.out)
          obtain ⟨s1, s2⟩ := HSum.out
          rw [s1, s2]
          clear s1 s2 hk hlt
          go_wp2_with (first
            | (go_at_call 19; have _t := B3; go_must (refine (Graphs _).mono ?_; rintro e w4 ⟨rfl, hb4⟩; have B4 := Lib.hid (Ext.trans B3.out hb4); have M4 := BM.out.ext hb4; have d0 := M4.cell 0; have d1 := M4.cell 1; have d2 := M4.cell 2; clear hb4))
            | (go_at_call 20; go_must (refine hd.out.mono ?_; rintro e w3 ⟨rfl, hb3⟩; have B3 := Lib.hid (Ext.trans EW.out hb3); have BM := Lib.hid (BW0.out.ext hb3); clear hb3 d0 d1 d2)))
          go_ret
          exact ⟨rfl, B4.out⟩
    · have hc' : checkB N E W = false := by simpa using hc
      have HN := Lib.hid (fun W1 (h : Ext w W1) => NormalG_no N pe ne ce pw nw cw E hs W W1 (hE.ext h) (hW.ext h) hz hc')
      clear hE hW hz hc hc' HD
      go_enter Try.func5, Try.ntmps5
      go_wp2_with (first
        | (go_at_call 19; have _t := B2; go_must (refine (Graphs _).mono ?_; rintro e w3 ⟨rfl, hb3⟩; have B3 := Lib.hid (Ext.trans (Ext.alloc B2.out _) hb3); clear hb3))
        | (go_at_call 10; have _t := B1; go_must (refine (HN.out _ B1.out).mono ?_; rintro e w2 ⟨rfl, hb2⟩; have B2 := Lib.hid (Ext.trans B1.out hb2); clear hb2 c0 c1 c2))
        | (go_at_call 8; go_must (refine (HBig.out _ hx).mono ?_; rintro e w1 ⟨rfl, hb1⟩; have B1 := Lib.hid (Ext.trans hx hb1); have K1 := Lib.hid (hblk.out.ext hb1); clear hb1; have c0 := K1.out.cell 0; have c1 := K1.out.cell 1; have c2 := K1.out.cell 2)))
      go_ret
      exact ⟨rfl, B3.out⟩
end Go.Proofs.Ytlkngeflikecgaa
