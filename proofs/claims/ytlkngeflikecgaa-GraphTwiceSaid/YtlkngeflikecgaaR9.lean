import Derived.Test.YtlkngeflikecgaaR8
import Derived.Test.YtlkngeflikecgaaR5
namespace Go.Proofs.Ytlkngeflikecgaa
open Go Go.RowKit
/-- what the reference makes: a graph that is read, in memory from a block on -/
def GraphN (w : World) (base : Nat) (v : Value) (N : Int) (E : List (Int × Int)) (W : List (List ByteArray)) : Prop :=
  ∃ pe ne ce pw nw cw hs, v = .agg #[.int .i64 N, .slice pe ne ce, .slice pw nw cw] ∧ Rd w 2 pe ne (encE E) ∧ ne ≤ ce ∧ RdW w pw nw hs W ∧ nw ≤ cw ∧
    (0 < ne → base ≤ (adr pe 0).block) ∧ (0 < nw → base ≤ (adr pw 0).block) ∧ (∀ j, j < nw → 0 < (nth hs j).n → base ≤ (adr (nth hs j).p 0).block)
theorem GraphN.toR {w : World} {base : Nat} {v : Value} {N : Int} {E : List (Int × Int)} {W : List (List ByteArray)} (h : GraphN w base v N E W) : GraphR w v N E W := by
  obtain ⟨pe, ne, ce, pw, nw, cw, hs, h1, h2, h3, h4, h5, _⟩ := h
  exact ⟨pe, ne, ce, pw, nw, cw, hs, h1, h2, h3, h4, h5⟩
theorem GraphN.set {w : World} {base : Nat} {v : Value} {N : Int} {E : List (Int × Int)} {W : List (List ByteArray)} (h : GraphN w base v N E W) {b : Nat} (hb : b < base) (i : Nat) (u : Value) : GraphN (w.setCell ⟨b, i, none⟩ u) base v N E W := by
  obtain ⟨pe, ne, ce, pw, nw, cw, hs, h1, h2, h3, h4, h5, f1, f2, f3⟩ := h
  exact ⟨pe, ne, ce, pw, nw, cw, hs, h1, h2.set_ (fun h => by have := f1 h; omega) i u, h3, ⟨h4.hn, h4.row.set_ (fun h => by have := f2 h; omega) i u, fun j hj => (h4.each j hj).set_ (fun h => by have := f3 j hj h; omega) i u⟩, h5, f1, f2, f3⟩
theorem GraphN.mono {w : World} {base b : Nat} {v : Value} {N : Int} {E : List (Int × Int)} {W : List (List ByteArray)} (h : GraphN w base v N E W) (hb : b ≤ base) : GraphN w b v N E W := by
  obtain ⟨pe, ne, ce, pw, nw, cw, hs, h1, h2, h3, h4, h5, f1, f2, f3⟩ := h
  exact ⟨pe, ne, ce, pw, nw, cw, hs, h1, h2, h3, h4, h5, fun h => Nat.le_trans hb (f1 h), fun h => Nat.le_trans hb (f2 h), fun j hj h => Nat.le_trans hb (f3 j hj h)⟩
theorem GraphN.nil (w : World) (base : Nat) : GraphN w base (.agg #[.int .i64 0, .slice none 0 0, .slice none 0 0]) 0 [] [] :=
  ⟨none, 0, 0, none, 0, 0, [], rfl, Rd.nil _ _ _, Nat.le_refl _, ⟨rfl, Rd.nil _ _ _, fun j hj => by omega⟩, Nat.le_refl _, fun h => by omega, fun h => by omega, fun j hj => by omega⟩
set_option maxRecDepth 100000 in
set_option maxHeartbeats 1000000 in
theorem Normal02_no (N : Int) (pe : Option Addr) (ne ce : Nat) (pw : Option Addr) (nw cw : Nat) (E : List (Int × Int)) (hs : List Hd) (W : List (List ByteArray)) (w : World) (hE : Rd w 2 pe ne (encE E)) (hW : RdW w pw nw hs W) (hz : SzW W) (hc : checkB N E W = false) :
    Calls Try.prog 11 #[.agg #[.int .i64 N, .slice pe ne ce, .slice pw nw cw]] w fun e w' => e = .returned (.tuple #[.agg #[.int .i64 0, .slice none 0 0, .slice none 0 0], .int .i64 20]) ∧ Ext w w' := by
  have HE := Lib.hid hE; clear hE
  have HW := Lib.hid hW; clear hW
  have HZ := Lib.hid hz; clear hz
  go_enter Try.func11, Try.ntmps11
  go_wp2_with (go_at_call 14; refine (Check02 _ _ _ _ _ _ _ E hs W _ (HE.out.ext (alloc2 w _ _).2.2) (HW.out.ext (alloc2 w _ _).2.2) HZ.out).mono ?_; rintro e w1 ⟨rfl, hb1⟩; have BR : Blk w1 (w.heap.size + 1) _ _ := (hb1.block _ (by simp)).trans (alloc2 w _ _).2.1; have r0 := BR.cell 0; have r1 := BR.cell 1; have r2 := BR.cell 2; have k0 := BR.frozen 0; have k1 := BR.frozen 1; have k2 := BR.frozen 2; have HB := Lib.hid (Ext.trans (alloc2 w _ _).2.2 hb1); have BR0 := Lib.hid BR; clear BR hb1)
  have B0 := BR0.out
  have B1 := B0.set_ 0 (.int .i64 0)
  have B2 := B1.set_ 1 (.slice none 0 0)
  have c0 := (B2.set_ 2 (.slice none 0 0)).cell 0
  have c1' := (B2.set_ 2 (.slice none 0 0)).cell 1
  have c2 := (B2.set_ 2 (.slice none 0 0)).cell 2
  refine bodyPost_ret (v := .tuple #[.agg #[.int .i64 0, .slice none 0 0, .slice none 0 0], .int .i64 20]) (by simp [results, Try.results11, go_sem, c0, c1', c2, Try.sizeOf25, Try.isAgg25]) rfl ⟨rfl, ?_⟩
  exact ((HB.out.setCell (by simp) _).setCell (by simp) _).setCell (by simp) _
set_option maxRecDepth 100000 in
set_option maxHeartbeats 2000000 in
theorem Normal02_yes (N : Int) (pe : Option Addr) (ne ce : Nat) (pw : Option Addr) (nw cw : Nat) (E : List (Int × Int)) (hs : List Hd) (W : List (List ByteArray)) (w : World) (hE : Rd w 2 pe ne (encE E)) (hW : RdW w pw nw hs W) (hz : SzW W) (hc : checkB N E W = true) :
    Calls Try.prog 11 #[.agg #[.int .i64 N, .slice pe ne ce, .slice pw nw cw]] w fun e w' => ∃ v, e = .returned (.tuple #[v, .int .i64 0]) ∧ GraphN w' w.heap.size v N (putAll lessE E) (W.map (putAll sLess)) ∧ Ext w w' := by
  obtain ⟨j0, hj0, hy0, hy1, hy2⟩ := info_parts inf35
  obtain ⟨_, hN, hE2, hWN, _, hW8⟩ := checkB_parts hc
  have hW9 := rowOk_len hW8
  have p1 := hE.ptr
  have p2 := hW.row.ptr
  have l1 := hE.nE
  have l2 := hW.nW
  have n1 : ne ≤ 2000 := by omega
  have n2 : nw ≤ 200 := by omega
  obtain rfl : N = (nw : Int) := by omega
  have HE := Lib.hid hE; clear hE
  have HW := Lib.hid hW; clear hW
  have HZ := Lib.hid hz; clear hz
  have L1 := Lib.hid l1; clear l1
  have L2 := Lib.hid l2; clear l2
  have H9 := Lib.hid hW9; clear hW9
  clear hW8 hE2 hN hWN
  go_enter Try.func11, Try.ntmps11
  go_wp2_with (go_at_call 14; refine (Check02 _ _ _ _ _ _ _ E hs W _ (HE.out.ext (alloc2 w _ _).2.2) (HW.out.ext (alloc2 w _ _).2.2) HZ.out).mono ?_; rintro e w1 ⟨rfl, hb1⟩; have BG : Blk w1 w.heap.size _ _ := (hb1.block _ (by simp; omega)).trans (alloc2 w _ _).1; have BR : Blk w1 (w.heap.size + 1) _ _ := (hb1.block _ (by simp)).trans (alloc2 w _ _).2.1; have g0 := BG.cell 0; have zb := BR.lt; have HB := Lib.hid (Ext.trans (alloc2 w _ _).2.2 hb1); have BR0 := Lib.hid BR; have BG0 := Lib.hid BG; clear BR BG hb1)
  obtain ⟨b, hb⟩ : ∃ b, b = w1.heap.size := ⟨_, rfl⟩
  have ZB := Lib.hid zb
  rw [← hb]
  have hbw : w.heap.size + 1 < b := by rw [hb]; exact zb
  have hw : b ≤ w1.heap.size := Nat.le_of_eq hb
  have HBB := Lib.hid hb; clear hb
  go_loopw [5, 6] (fun i _ wr => ∃ (k : Nat) (q : Option Addr) (m cq : Nat), k ≤ ne ∧ i = .int .i64 k ∧ Rd wr 2 q m (encE ((E.take k).foldl (putL lessE) [])) ∧ m ≤ k ∧ m ≤ cq ∧ (0 < m → b < (adr q 0).block) ∧
    Blk wr w.heap.size 25 #[.int .i64 nw, .slice pe ne ce, .slice pw nw cw] ∧ Blk wr (w.heap.size + 1) 25 #[.int .i64 0, .slice none 0 0, .slice none 0 0] ∧ Blk wr b 25 #[.int .i64 nw, .slice q m cq, .slice none 0 0] ∧ Ext w wr) (fun i _ _ => ne - (intOf i).toNat)
  case atStart => exact ⟨0, none, 0, 0, Nat.zero_le _, rfl, Rd.nil _ _ _, Nat.le_refl _, Nat.le_refl _, fun h => absurd h (by omega), BG0.out.alloc _, BR0.out.alloc _, by rw [HBB.out]; exact Blk.new _ _ _, HB.out.alloc _⟩
  case round =>
    clear g0 HB BR0 BG0 zb hw ZB HBB
    obtain ⟨k, q, m, cq, hk, rfl, RQ, hmk, hmc, hqb, BG, BR, BO, HB⟩ := hrel
    have g0 := BG.cell 0
    have g1 := BG.cell 1
    have g2 := BG.cell 2
    have o0 := BO.cell 0
    have o1 := BO.cell 1
    have o2 := BO.cell 2
    have k1 := BO.frozen 1
    have z0 : b < wr.heap.size := BO.lt
    have BG0 := Lib.hid BG; clear BG
    have BR0 := Lib.hid BR; clear BR
    have BO0 := Lib.hid BO; clear BO
    have HB0 := Lib.hid HB; clear HB
    have RQ0 := Lib.hid RQ; clear RQ
    have HQB := Lib.hid hqb; clear hqb
    by_cases hlt : k < ne
    · have e1 := HB0.out.cell (HE.out.cE hlt)
      have e2 := HB0.out.cell (HE.out.cE2 hlt)
      have d1 : (0:Int) ≤ k := by omega
      have d2 : (k:Int) < ne := by omega
      have HT := Lib.hid (foldl_take_succ (putL lessE) E [] k (by rw [← L1.out]; exact hlt))
      have m5 : m ≤ 1000000 := by omega
      go_wp2
      go_still_tail 7, (by kernel_rfl)
      go_wp2_with (go_at_call 29; go_must ((refine (put02 q m cq _ _ _ _ (RQ0.out.ext (Below.refl _ _).drew) hmc m5).mono ?_; rintro e w2 ⟨p', n', c', rfl, RP, hpc, hfr, hlen, hb2⟩; have BG2 := Lib.hid (BG0.out.ext (Below.trans (Below.refl _ _).drew hb2)); have BR2 := Lib.hid (BR0.out.ext (Below.trans (Below.refl _ _).drew hb2)); have BO2 := Lib.hid (BO0.out.ext (Below.trans (Below.refl _ _).drew hb2)); have HB2 := Lib.hid (Ext.trans HB0.out (Below.trans (Below.refl _ _).drew hb2)); have x1 := BO2.out.cell 1; have xf := BO2.out.frozen 1; have RP2 := Lib.hid RP; have HFR := Lib.hid hfr; clear RP hfr hb2)))
      go_roundw
      case rel =>
        have hnb : 0 < n' → b < (adr p' 0).block := by
          intro h0
          rcases HFR.out with ⟨rfl, rfl⟩ | h | h
          · exact HQB.out h0
          · omega
          · exact Nat.lt_of_lt_of_le z0 h
        exact ⟨k + 1, p', n', c', by omega, by go_num, by rw [HT.out]; exact RP2.out.set_ (fun h => by have := hnb h; omega) _ _, by omega, hpc, hnb, BG2.out.far (by simp; omega) _, BR2.out.far (by simp; omega) _, BO2.out.set_ 1 _, HB2.out.setCell (by simp; omega) _⟩
      case measure => simp [intOf]; omega
    · have hkn : k = ne := by omega
      subst hkn
      have HT : Hid ((E.take k).foldl (putL lessE) [] = putAll lessE E) := by unfold Hid; rw [List.take_of_length_le (by rw [← L1.out]; omega)]; rfl
      have RQ1 : Hid (Rd wr 2 q m (encE (putAll lessE E))) := by rw [← HT.out]; exact RQ0.out
      go_wp2
      obtain ⟨we, rfl⟩ : ∃ we : World, we = wr := ⟨_, rfl⟩
      have HQE : Hid (0 < m * 2 → (adr q 0).block < we.heap.size) := fun h => RQ0.out.lt h
      have HQB2 := HQB
      have HBE : Hid (b < we.heap.size) := z0
      have HGE : Hid (w.heap.size < we.heap.size) := by unfold Hid; omega
      have HRE : Hid (w.heap.size + 1 < we.heap.size) := by unfold Hid; omega
      have HWE : Hid (w.heap.size ≤ we.heap.size) := by unfold Hid; omega
      go_loopw [7, 8] (fun i _ wr => ∃ (j : Nat) (qh : Option Addr) (ch : Nat) (hs' : List Hd), j ≤ nw ∧ i = .int .i64 j ∧ OwnW wr we.heap.size qh j ch hs' ((W.take j).map (putAll sLess)) ∧ Rd wr 2 q m (encE (putAll lessE E)) ∧
        Blk wr w.heap.size 25 #[.int .i64 nw, .slice pe k ce, .slice pw nw cw] ∧ Blk wr (w.heap.size + 1) 25 #[.int .i64 0, .slice none 0 0, .slice none 0 0] ∧ Blk wr b 25 #[.int .i64 nw, .slice q m cq, .slice qh j ch] ∧ Ext w wr ∧ we.heap.size ≤ wr.heap.size) (fun i _ _ => nw - (intOf i).toNat)
      case atStart => exact ⟨0, none, 0, [], Nat.zero_le _, rfl, OwnW.nil _ _, RQ1.out, BG0.out, BR0.out, BO0.out, HB0.out, Nat.le_refl _⟩
      case round =>
        clear g0 g1 g2 o0 o1 o2 k1 RQ1 BG0 BR0 BO0 HB0 RQ0 HQB
        obtain ⟨j, qh, ch, hs', hj, rfl, OW, RQ, BG, BR, BO, HB, HZZ⟩ := hrel
        have g0 := BG.cell 0
        have g2 := BG.cell 2
        have o0 := BO.cell 0
        have o1 := BO.cell 1
        have o2 := BO.cell 2
        have r0 := BR.cell 0
        have r1 := BR.cell 1
        have r2 := BR.cell 2
        have q0 := BR.frozen 0
        have q1 := BR.frozen 1
        have q2 := BR.frozen 2
        have OW0 := Lib.hid OW; clear OW
        have RQ0 := Lib.hid RQ; clear RQ
        have BG0 := Lib.hid BG; clear BG
        have BR0 := Lib.hid BR; clear BR
        have BO0 := Lib.hid BO; clear BO
        have HB0 := Lib.hid HB; clear HB
        by_cases hjt : j < nw
        · have gh := HB0.out.cell (HW.out.row.cH hjt)
          have QS := Lib.hid ((HW.out.each j hjt).ext HB0.out)
          have hlen : (nth hs j).n ≤ 8 := by rw [QS.out.nS]; exact H9.out _ (by rw [nth_eq (by rw [← L2.out]; exact hjt)]; exact List.getElem_mem _)
          have HT2 := Lib.hid (map_take_succ (putAll sLess) W j (by rw [← L2.out]; exact hjt))
          have m1 : (nth hs j).n ≤ 1000000 := by omega
          have m3 : (j + 1) * 24 ≤ 140737488355328 := by omega
          have m4 : j + 1 ≤ 140737488355328 := by omega
          have M3 := Lib.hid m3; clear m3
          have M4 := Lib.hid m4; clear m4
          go_wp2_with (first
            | (at_builtin; have _t := OR; go_must ((refine wpList_append_rd rfl _ _ _ rfl we.heap.size 35 j0 _ 1 24 Try.underlying23 hj0 hy0 hy1 hy2 rfl (by omega) qh j ch _ rfl (World.ownsRow.alloc OW2.out.row _) _ 1 1 _ rfl (Rd.oneH w2 _ p' n' c') (one_slice _ _ _) M3.out M4.out (by rw [World.size_alloc]; exact Nat.le_succ_of_le (Nat.le_trans HZZ HX2.out.size)) ?_; intro q3 c3 w3 own3 hg3 hat3 hl3; have HB3 := Lib.hid (Below.trans (Ext.alloc (Ext.trans HB0.out HX2.out) _) (hl3.mono HWE.out)); have BO3 : Blk w3 b _ _ := (hl3.block b HBE.out).trans ((BO0.out.ext HX2.out).alloc _); have BG3 : Blk w3 w.heap.size _ _ := (hl3.block _ HGE.out).trans ((BG0.out.ext HX2.out).alloc _); have BR3 : Blk w3 (w.heap.size + 1) _ _ := (hl3.block _ HRE.out).trans ((BR0.out.ext HX2.out).alloc _); have RQ3 := Lib.hid (Rd.below ((RQ0.out.ext HX2.out).ext (Ext.alloc (Below.refl _ _) _)) hl3 HQE.out); have OW3 := Lib.hid (OwnW.push1 OW2.out OR.out own3 hg3); have x2 := BO3.cell 2; have xf := BO3.frozen 2; have BO4 := Lib.hid BO3; have BG4 := Lib.hid BG3; have BR4 := Lib.hid BR3; have HS3 := Lib.hid hl3.size; clear own3 hg3 hat3 hl3 BO3 BG3 BR3)))
            | (go_at_call 30; go_must ((refine (Texts02 _ _ _ _ _ QS.out m1).mono ?_; rintro e w2 ⟨p', n', c', rfl, hn', ownr, hb2⟩; have OR := Lib.hid (own_base ownr (b := we.heap.size) HZZ); have HX2 := Lib.hid hb2; have OW2 := Lib.hid (OW0.out.ext hb2); have y2 := (BO0.out.ext hb2).cell 2; have z2 := (BO0.out.ext hb2).lt; have HN' := Lib.hid hn'; clear hb2 ownr hn'))))
          go_roundw
          case rel => exact ⟨j + 1, q3, c3, _, by omega, by go_num, by rw [HT2.out]; exact OW3.out.set_ BO4.out (by decide) (by decide) _ _, RQ3.out.set_ (fun h => by have := HQB2.out h; omega) _ _, BG4.out.far (by simp; omega) _, BR4.out.far (by simp; omega) _, BO4.out.set_ 2 _, HB3.out.setCell (by simp; omega) _, by have := HS3.out; have := HX2.out.size; simp [World.setCell] at *; omega⟩
          case measure => simp [intOf]; omega
        · have hjn : j = nw := by omega
          subst hjn
          have HT2 : Hid ((W.take j).map (putAll sLess) = W.map (putAll sLess)) := by unfold Hid; rw [List.take_of_length_le (by rw [← L2.out]; omega)]
          go_wp2
          have B0 := BR0.out
          have B1 := B0.set_ 0 (.int .i64 j)
          have B2 := B1.set_ 1 (.slice q m cq)
          have c0 := (B2.set_ 2 (.slice qh j ch)).cell 0
          have c1' := (B2.set_ 2 (.slice qh j ch)).cell 1
          have c2 := (B2.set_ 2 (.slice qh j ch)).cell 2
          refine bodyPost_ret (v := .tuple #[.agg #[.int .i64 j, .slice q m cq, .slice qh j ch], .int .i64 0]) (by simp [results, Try.results11, go_sem, c0, c1', c2, Try.sizeOf25, Try.isAgg25]) rfl ⟨_, rfl, ?_, ?_⟩
          · have hqb : 0 < m → (adr q 0).block ≠ w.heap.size + 1 := fun h => by have := HQB2.out h; omega
            have RQ := ((RQ0.out.set_ hqb 0 (.int .i64 j)).set_ hqb 1 (.slice q m cq)).set_ hqb 2 (.slice qh j ch)
            have OW := ((OW0.out.set_ B0 (by decide) (by decide) 0 (.int .i64 j)).set_ B1 (by decide) (by decide) 1 (.slice q m cq)).set_ B2 (by decide) (by decide) 2 (.slice qh j ch)
            rw [HT2.out] at OW
            exact ⟨q, m, cq, qh, j, ch, hs', rfl, RQ, hmc, OW.rd (by omega) (fun l hl => by
              obtain ⟨l', hl', rfl⟩ := List.mem_map.1 hl
              have := putAll_len sLess l'
              have := H9.out l' hl'
              omega), own_cap OW.row, fun h => by have := HQB2.out h; omega, fun h => by
                have := HWE.out
                rcases own_fresh OW.row with h | h <;> omega, fun i hi h => by
                have := HWE.out
                rcases own_fresh (OW.each i hi) with h | h <;> omega⟩
          · exact ((HB0.out.setCell (by simp) _).setCell (by simp) _).setCell (by simp) _
theorem Normal02N (N : Int) (pe : Option Addr) (ne ce : Nat) (pw : Option Addr) (nw cw : Nat) (E : List (Int × Int)) (hs : List Hd) (W : List (List ByteArray)) (w : World) (hE : Rd w 2 pe ne (encE E)) (hW : RdW w pw nw hs W) (hz : SzW W) :
    Calls Try.prog 11 #[.agg #[.int .i64 N, .slice pe ne ce, .slice pw nw cw]] w fun e w' => ∃ v, e = .returned (.tuple #[v, .int .i64 (normC N E W)]) ∧ GraphN w' w.heap.size v (normN N E W) (normE N E W) (normW N E W) ∧ Ext w w' := by
  unfold normC normN normE normW
  by_cases hc : checkB N E W = true
  · simp only [hc, if_true]
    exact Normal02_yes N pe ne ce pw nw cw E hs W w hE hW hz hc
  · have hc' : checkB N E W = false := by simpa using hc
    simp only [hc']
    refine (Normal02_no N pe ne ce pw nw cw E hs W w hE hW hz hc').mono fun e w' ⟨he, hb⟩ => ⟨_, he, GraphN.nil _ _, hb⟩
theorem Normal02 (N : Int) (pe : Option Addr) (ne ce : Nat) (pw : Option Addr) (nw cw : Nat) (E : List (Int × Int)) (hs : List Hd) (W : List (List ByteArray)) (w : World) (hE : Rd w 2 pe ne (encE E)) (hW : RdW w pw nw hs W) (hz : SzW W) :
    Calls Try.prog 11 #[.agg #[.int .i64 N, .slice pe ne ce, .slice pw nw cw]] w fun e w' => ∃ v, e = .returned (.tuple #[v, .int .i64 (normC N E W)]) ∧ GraphR w' v (normN N E W) (normE N E W) (normW N E W) ∧ Ext w w' :=
  (Normal02N N pe ne ce pw nw cw E hs W w hE hW hz).mono fun _ _ ⟨v, he, h, hb⟩ => ⟨v, he, h.toR, hb⟩
end Go.Proofs.Ytlkngeflikecgaa
