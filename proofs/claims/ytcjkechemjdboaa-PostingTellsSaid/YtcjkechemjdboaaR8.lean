import Derived.Test.YtcjkechemjdboaaR7
import Derived.Test.YtcjkechemjdboaaR6
namespace Go.Proofs.Ytcjkechemjdboaa
open Go Go.RowKit
theorem inf35 : (Try.prog.info? 35).map (fun i => (i.zero, i.size, i.bytes)) = some (some (.slice none 0 0), 1, 24) := by kernel_rfl
/-- a graph in memory of the call's own, read alone -/
def GraphR (w : World) (v : Value) (N : Int) (E : List (Int × Int)) (W : List (List ByteArray)) : Prop :=
  ∃ pe ne ce pw nw cw hs, v = .agg #[.int .i64 N, .slice pe ne ce, .slice pw nw cw] ∧ Rd w 2 pe ne (encE E) ∧ ne ≤ ce ∧ RdW w pw nw hs W ∧ nw ≤ cw
set_option maxRecDepth 100000 in
set_option maxHeartbeats 1000000 in
theorem Own02 (N : Int) (pe : Option Addr) (ne ce : Nat) (pw : Option Addr) (nw cw : Nat) (E : List (Int × Int)) (hs : List Hd) (W : List (List ByteArray)) (w : World) (hE : Rd w 2 pe ne (encE E)) (hW : RdW w pw nw hs W) (h1 : ne ≤ 100000) (h2 : nw ≤ 100000) (h3 : ∀ l ∈ W, l.length ≤ 100000) :
    Calls Try.prog 14 #[.agg #[.int .i64 N, .slice pe ne ce, .slice pw nw cw]] w fun e w' => ∃ v, e = .returned v ∧ GraphR w' v N E W ∧ Ext w w' := by
  obtain ⟨i0, hi0, hz0, hz1, hz2⟩ := info_parts inf34
  obtain ⟨j0, hj0, hy0, hy1, hy2⟩ := info_parts inf35
  have p2 := hW.row.ptr
  have n2 := hW.row.small
  have l2 := hW.nW
  have HE := Lib.hid hE; clear hE
  have HW := Lib.hid hW; clear hW
  have L2 := Lib.hid l2; clear l2
  have H3 := Lib.hid h3; clear h3
  go_enter Try.func14, Try.ntmps14
  go_wp2_with (at_builtin; go_must ((refine wpList_append_rd rfl _ _ _ rfl (w.heap.size + 1 + 1 + 1) 71 i0 _ 2 16 Try.underlying22 hi0 hz0 hz1 hz2 rfl (by omega) none 0 0 [] rfl (World.ownsRow_nil _ _ _ _) pe ne ce (encE E) rfl (HE.out.ext (alloc3 w _ _ _).2.2.2) (one_encE _) (by omega) (by omega) (by simp) ?_; intro q1 c1 w1 own1 hg1 hat1 hl1; simp only [Nat.zero_add, List.nil_append] at own1; have BG : Blk w1 w.heap.size _ _ := (hl1.block _ (by omega)).trans (alloc3 w _ _ _).1; have BR : Blk w1 (w.heap.size + 1) _ _ := (hl1.block _ (by omega)).trans (alloc3 w _ _ _).2.1; have BO : Blk w1 (w.heap.size + 1 + 1) _ _ := (hl1.block _ (by omega)).trans (alloc3 w _ _ _).2.2.1; have HB := Lib.hid (Below.trans (alloc3 w _ _ _).2.2.2 (hl1.mono (by omega))); have g0 := BG.cell 0; have g1 := BG.cell 1; have g2 := BG.cell 2; have o0 := BO.cell 0; have o1 := BO.cell 1; have o2 := BO.cell 2; have f1 := BO.frozen 1; have f2 := BO.frozen 2; have OE := Lib.hid own1; have BG' := Lib.hid BG; have BR' := Lib.hid BR; have BO' := Lib.hid BO; clear own1 hg1 hat1 hl1 BG BR BO)))
  go_loopw [4, 5] (fun i _ wr => ∃ (k : Nat) (q : Option Addr) (cq : Nat) (hs' : List Hd), k ≤ nw ∧ i = .int .i64 k ∧ OwnW wr (w.heap.size + 1 + 1 + 1) q k cq hs' (W.take k) ∧ wr.ownsRow (w.heap.size + 1 + 1 + 1) 71 2 (.slice q1 ne c1) ne (encE E) ∧
    Blk wr w.heap.size 25 #[.int .i64 N, .slice pe ne ce, .slice pw nw cw] ∧ Blk wr (w.heap.size + 1) 25 #[.int .i64 0, .slice none 0 0, .slice none 0 0] ∧ Blk wr (w.heap.size + 1 + 1) 25 #[.int .i64 N, .slice q1 ne c1, .slice q k cq] ∧ Ext w wr) (fun i _ _ => nw - (intOf i).toNat)
  case atStart => exact ⟨0, none, 0, [], Nat.zero_le _, rfl, OwnW.nil _ _, own_set OE.out BO'.out (by decide) _ _, BG'.out.far (by simp; omega) _, BR'.out.far (by simp) _, BO'.out.set_ 1 _, HB.out.setCell (by simp; omega) _⟩
  case round =>
    clear g0 g1 g2 o0 o1 o2 f1 f2 HB OE BG' BR' BO'
    obtain ⟨k, q, cq, hs', hk, rfl, OW, OE, BG, BR, BO, HB⟩ := hrel
    have g0 := BG.cell 0
    have g2 := BG.cell 2
    have o0 := BO.cell 0
    have o1 := BO.cell 1
    have o2 := BO.cell 2
    have r0 := BR.cell 0
    have r1 := BR.cell 1
    have r2 := BR.cell 2
    have k0 := BR.frozen 0
    have k1 := BR.frozen 1
    have k2 := BR.frozen 2
    have z0 : w.heap.size + 1 + 1 < wr.heap.size := BO.lt
    have OW0 := Lib.hid OW; clear OW
    have OE0 := Lib.hid OE; clear OE
    have BG0 := Lib.hid BG; clear BG
    have BR0 := Lib.hid BR; clear BR
    have BO0 := Lib.hid BO; clear BO
    have HB0 := Lib.hid HB; clear HB
    by_cases hlt : k < nw
    · have gh := HB0.out.cell (HW.out.row.cH hlt)
      have QS := Lib.hid ((HW.out.each k hlt).ext HB0.out)
      have hlen : (nth hs k).n ≤ 100000 := by rw [QS.out.nS]; exact H3.out _ (by rw [nth_eq (by rw [← L2.out]; exact hlt)]; exact List.getElem_mem _)
      have HT : Hid (W.take (k + 1) = W.take k ++ [nth W k]) := take_succ_nth W k (by rw [← L2.out]; exact hlt)
      have t1 : (35 : TypeId) ≠ 25 := by decide
      have t2 : (35 : TypeId) ≠ 71 := by decide
      have m1 : (nth hs k).n ≤ 1000000 := by omega
      have m2 : w.heap.size + 1 + 1 + 1 ≤ wr.heap.size := z0
      have m3 : (k + 1) * 24 ≤ 140737488355328 := by omega
      have m4 : k + 1 ≤ 140737488355328 := by omega
      have m5 : ∀ w2 : World, Ext wr w2 → w.heap.size + 1 + 1 + 1 ≤ (w2.alloc (.cells #[.int .i64 0] 0)).heap.size := fun w2 h => by rw [World.size_alloc]; exact Nat.le_succ_of_le (Nat.le_trans m2 h.size)
      have M3 := Lib.hid m3; clear m3
      have M4 := Lib.hid m4; clear m4
      have M5 := Lib.hid m5; clear m5
      go_wp2_with (first
        | (at_builtin; have _t := OR; go_must ((refine wpList_append_rd rfl _ _ _ rfl (w.heap.size + 1 + 1 + 1) 35 j0 _ 1 24 Try.underlying23 hj0 hy0 hy1 hy2 rfl (by omega) q k cq _ rfl (World.ownsRow.alloc OW2.out.row _) _ 1 1 _ rfl (Rd.oneH w2 _ p' (nth hs k).n c') (one_slice _ _ _) M3.out M4.out (by rw [World.size_alloc]; exact Nat.le_succ_of_le (Nat.le_trans m2 HX2.out.size)) ?_; intro q3 c3 w3 own3 hg3 hat3 hl3; have BO3 := BO2.out.kept OW2.out.row t1 hg3; have BG3 := BG2.out.kept OW2.out.row t1 hg3; have BR3 := BR2.out.kept OW2.out.row t1 hg3; have OE3 := Lib.hid (own_kept OE2.out OW2.out.row t2 hg3); have OW3 := Lib.hid (OwnW.push1 OW2.out OR.out own3 hg3); have x2 := BO3.cell 2; have xf := BO3.frozen 2; have HB3 := Lib.hid (Below.trans (Ext.alloc HB2.out _) (hl3.mono (Nat.le_succ_of_le (Nat.le_succ_of_le (Nat.le_succ _))))); have BO4 := Lib.hid BO3; have BG4 := Lib.hid BG3; have BR4 := Lib.hid BR3; clear own3 hg3 hat3 hl3 BO3 BG3 BR3)))
        | (go_at_call 25; go_must ((refine (OwnTexts01 _ _ _ _ _ QS.out m1).mono ?_; rintro e w2 ⟨p', c', rfl, ownr, hb2⟩; have OR := Lib.hid (own_base ownr (b := w.heap.size + 1 + 1 + 1) m2); have HX2 := Lib.hid hb2; have OW2 := Lib.hid (OW0.out.ext hb2); have OE2 := Lib.hid (hb2.own OE0.out); have BG2 := Lib.hid (BG0.out.ext hb2); have BR2 := Lib.hid (BR0.out.ext hb2); have BO2 := Lib.hid (BO0.out.ext hb2); have HB2 := Lib.hid (Ext.trans HB0.out hb2); have y2 := BO2.out.cell 2; have z2 := BO2.out.lt; clear hb2 ownr))))
      go_roundw
      case rel => exact ⟨k + 1, q3, c3, _, by omega, by go_num, by rw [HT.out]; exact OW3.out.set_ BO4.out (by decide) (by decide) _ _, own_set OE3.out BO4.out (by decide) _ _, BG4.out.far (by simp; omega) _, BR4.out.far (by simp) _, BO4.out.set_ 2 _, HB3.out.setCell (by simp; omega) _⟩
      case measure => simp [intOf]; omega
    · have hkn : k = nw := by omega
      subst hkn
      have HT : Hid (W.take k = W) := List.take_of_length_le (by rw [← L2.out]; omega)
      go_wp2
      have B0 := BR0.out
      have B1 := B0.set_ 0 (.int .i64 N)
      have B2 := B1.set_ 1 (.slice q1 ne c1)
      have c0 := (B2.set_ 2 (.slice q k cq)).cell 0
      have c1' := (B2.set_ 2 (.slice q k cq)).cell 1
      have c2 := (B2.set_ 2 (.slice q k cq)).cell 2
      refine bodyPost_ret (v := .agg #[.int .i64 N, .slice q1 ne c1, .slice q k cq]) (by simp [results, Try.results14, go_sem, c0, c1', c2, Try.sizeOf25, Try.isAgg25]) rfl ⟨_, rfl, ?_, ?_⟩
      · have OE := own_set (own_set (own_set OE0.out B0 (by decide) 0 (.int .i64 N)) B1 (by decide) 1 (.slice q1 ne c1)) B2 (by decide) 2 (.slice q k cq)
        have OW := ((OW0.out.set_ B0 (by decide) (by decide) 0 (.int .i64 N)).set_ B1 (by decide) (by decide) 1 (.slice q1 ne c1)).set_ B2 (by decide) (by decide) 2 (.slice q k cq)
        rw [HT.out] at OW
        exact ⟨q1, ne, c1, q, k, cq, hs', rfl, Rd.of_own OE (by omega), own_cap OE, OW.rd (by omega) (fun l hl => Nat.le_trans (H3.out l hl) (by omega)), own_cap OW.row⟩
      · exact ((HB0.out.setCell (by simp) _).setCell (by simp) _).setCell (by simp) _
end Go.Proofs.Ytcjkechemjdboaa
