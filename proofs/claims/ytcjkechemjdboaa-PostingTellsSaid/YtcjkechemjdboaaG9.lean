/- The program's Normal: a graph in memory of its own. -/
import Derived.Test.YtcjkechemjdboaaG8
import Derived.Test.YtcjkechemjdboaaG2
import Derived.Test.YtcjkechemjdboaaR8
import Derived.Test.YtcjkechemjdboaaRel
namespace Go.Proofs.Ytcjkechemjdboaa
open Go Go.RowKit Go.Shelf Go.Lib Go.Sort
theorem allLt_zero {p : Nat → Prop} : ∀ i, i < 0 → p i := fun i h => absurd h (Nat.not_lt_zero i)
theorem allLt_succ {n : Nat} {p : Nat → Prop} (h : ∀ i, i < n → p i) (hn : p n) : ∀ i, i < n + 1 → p i := fun i hi => by
  rcases Nat.lt_or_ge i n with h1 | h1
  · exact h i h1
  · obtain rfl : i = n := by omega
    exact hn
/-- a graph in memory of the call's own -/
def GraphO (w : World) (base : Nat) (v : Value) (N : Int) (E : List (Int × Int)) (W : List (List ByteArray)) : Prop :=
  ∃ pe ce pw cw hs, v = .agg #[.int .i64 N, .slice pe E.length ce, .slice pw W.length cw] ∧ w.ownsRow base 71 2 (.slice pe E.length ce) E.length (encE E) ∧ OwnW w base pw W.length cw hs W
set_option maxRecDepth 100000 in
set_option maxHeartbeats 1000000 in
theorem NormalG_no (N : Int) (pe : Option Addr) (ne ce : Nat) (pw : Option Addr) (nw cw : Nat) (E : List (Int × Int)) (hs : List Hd) (W : List (List ByteArray)) (w : World) (hE : Rd w 2 pe ne (encE E)) (hW : RdW w pw nw hs W) (hz : SzW W) (hc : checkB N E W = false) :
    Calls Try.prog 46 #[.agg #[.int .i64 N, .slice pe ne ce, .slice pw nw cw]] w fun e w' => e = .returned (.tuple #[.agg #[.int .i64 0, .slice none 0 0, .slice none 0 0], .int .i64 20]) ∧ Ext w w' := by
  have HE := Lib.hid hE; clear hE
  have HW := Lib.hid hW; clear hW
  have HZ := Lib.hid hz; clear hz
  go_enter Try.func46, Try.ntmps46
  go_wp2_with (go_at_call 80; refine (CheckG _ _ _ _ _ _ _ E hs W _ (HE.out.ext (alloc2 w _ _).2.2) (HW.out.ext (alloc2 w _ _).2.2) HZ.out).mono ?_; rintro e w1 ⟨rfl, hb1⟩; have BR : Blk w1 (w.heap.size + 1) _ _ := (hb1.block _ (by simp)).trans (alloc2 w _ _).2.1; have r0 := BR.cell 0; have r1 := BR.cell 1; have r2 := BR.cell 2; have k0 := BR.frozen 0; have k1 := BR.frozen 1; have k2 := BR.frozen 2; have HB := Lib.hid (Ext.trans (alloc2 w _ _).2.2 hb1); have BR0 := Lib.hid BR; clear BR hb1)
  have B0 := BR0.out
  have B1 := B0.set_ 0 (.int .i64 0)
  have B2 := B1.set_ 1 (.slice none 0 0)
  have c0 := (B2.set_ 2 (.slice none 0 0)).cell 0
  have c1' := (B2.set_ 2 (.slice none 0 0)).cell 1
  have c2 := (B2.set_ 2 (.slice none 0 0)).cell 2
  refine bodyPost_ret (v := .tuple #[.agg #[.int .i64 0, .slice none 0 0, .slice none 0 0], .int .i64 20]) (by simp [results, Try.results46, go_sem, c0, c1', c2, Try.sizeOf25, Try.isAgg25]) rfl ⟨rfl, ?_⟩
  exact ((HB.out.setCell (by simp) _).setCell (by simp) _).setCell (by simp) _
/-- what the operations of the first composite tell -/
def R3 (b : Nat) (wz N : Nat) (pe : Option Addr) (ne ce : Nat) (D : List (Int × Int)) (i : Nat) (v : Value) (W : World) : Prop :=
  match i with
  | 0 => v = .pointer (some ⟨b, 0, none⟩)
  | 1 => v = .int .i64 N
  | 2 => v = .pointer (some ⟨b, 1, none⟩)
  | 3 => v = .slice pe ne ce
  | 4 => v = .agg #[.func (.func 111) #[] #[]]
  | 5 => ∃ q c, v = .slice q D.length c ∧ W.ownsRow wz 71 2 (.slice q D.length c) D.length (encE D)
  | 6 => ∃ q c, v = .agg #[.int .i64 N, .slice q D.length c, .slice none 0 0] ∧ W.ownsRow wz 71 2 (.slice q D.length c) D.length (encE D)
  | 7 => ∃ g, v = .pointer (some ⟨g, 0, none⟩) ∧ wz ≤ g ∧ Blk W g 25 #[.int .i64 0, .slice none 0 0, .slice none 0 0]
  | _ => True
theorem R3_mono {b wz N : Nat} {pe : Option Addr} {ne ce : Nat} {D : List (Int × Int)} : ∀ i v W W', Ext W W' → R3 b wz N pe ne ce D i v W → R3 b wz N pe ne ce D i v W' := by
  intro i v W W' he h
  match i with
  | 0 => exact h
  | 1 => exact h
  | 2 => exact h
  | 3 => exact h
  | 4 => exact h
  | 5 => obtain ⟨q, c, h1, h2⟩ := h; exact ⟨q, c, h1, he.own h2⟩
  | 6 => obtain ⟨q, c, h1, h2⟩ := h; exact ⟨q, c, h1, he.own h2⟩
  | 7 => obtain ⟨g, h1, h2, h3⟩ := h; exact ⟨g, h1, h2, h3.ext he⟩
  | _ + 8 => trivial
/-- what the operations of the loop's append tell -/
def R7 (wz g : Nat) (qh : Option Addr) (j ch : Nat) (pl : Option Addr) (nl cl : Nat) (D : List ByteArray) (i : Nat) (v : Value) (W : World) : Prop :=
  match i with
  | 0 => v = .pointer (some ⟨g, 2, none⟩)
  | 1 => v = .slice qh j ch
  | 2 => v = .slice pl nl cl
  | 3 => v = .agg #[.func (.func 117) #[] #[]]
  | 4 => ∃ q c, v = .slice q D.length c ∧ W.ownsRow wz 9 1 (.slice q D.length c) D.length (encS D)
  | 5 => ∃ q c a, v = .slice a 1 1 ∧ Rd W 1 a 1 [.slice q D.length c] ∧ W.ownsRow wz 9 1 (.slice q D.length c) D.length (encS D)
  | _ => True
theorem R7_mono {wz g : Nat} {qh : Option Addr} {j ch : Nat} {pl : Option Addr} {nl cl : Nat} {D : List ByteArray} : ∀ i v W W', Ext W W' → R7 wz g qh j ch pl nl cl D i v W → R7 wz g qh j ch pl nl cl D i v W' := by
  intro i v W W' he h
  match i with
  | 0 => exact h
  | 1 => exact h
  | 2 => exact h
  | 3 => exact h
  | 4 => obtain ⟨q, c, h1, h2⟩ := h; exact ⟨q, c, h1, he.own h2⟩
  | 5 => obtain ⟨q, c, a, h1, h2, h3⟩ := h; exact ⟨q, c, a, h1, h2.ext he, he.own h3⟩
  | _ + 6 => trivial
set_option maxRecDepth 100000 in
set_option maxHeartbeats 2000000 in
theorem NormalG_yes (N : Int) (pe : Option Addr) (ne ce : Nat) (pw : Option Addr) (nw cw : Nat) (E : List (Int × Int)) (hs : List Hd) (W : List (List ByteArray)) (w : World) (hE : Rd w 2 pe ne (encE E)) (hW : RdW w pw nw hs W) (hz : SzW W) (hc : checkB N E W = true) :
    Calls Try.prog 46 #[.agg #[.int .i64 N, .slice pe ne ce, .slice pw nw cw]] w fun e w' => ∃ v, e = .returned (.tuple #[v, .int .i64 0]) ∧ GraphO w' w.heap.size v N (dedup (sortBy lessE E)) (W.map fun l => dedup (sortBy sLess l)) ∧ Ext w w' := by
  obtain ⟨j0, hj0, hy0, hy1, hy2⟩ := info_parts inf35
  obtain ⟨_, hN, hE2, hWN, _, hW8⟩ := checkB_parts hc
  have hW9 := rowOk_len hW8
  have p1 := hE.ptr
  have p2 := hW.row.ptr
  have l1 := hE.nE
  have l2 := hW.nW
  have n1 : ne ≤ 2000 := by omega
  have n2 : nw ≤ 200 := by omega
  obtain rfl : N = (nw : Int) := by omega
  have HE := Lib.hid hE; clear hE
  have HW := Lib.hid hW; clear hW
  have HZ := Lib.hid hz; clear hz
  have L1 := Lib.hid l1; clear l1
  have L2 := Lib.hid l2; clear l2
  have H9 := Lib.hid hW9; clear hW9
  clear hW8 hE2 hN hWN
  go_enter Try.func46, Try.ntmps46
  go_wp2_with (go_at_call 80; refine (CheckG _ _ _ _ _ _ _ E hs W _ (HE.out.ext (alloc2 w _ _).2.2) (HW.out.ext (alloc2 w _ _).2.2) HZ.out).mono ?_; rintro e w1 ⟨rfl, hb1⟩; have BG : Blk w1 w.heap.size _ _ := (hb1.block _ (by simp; omega)).trans (alloc2 w _ _).1; have BR : Blk w1 (w.heap.size + 1) _ _ := (hb1.block _ (by simp)).trans (alloc2 w _ _).2.1; have g0 := BG.cell 0; have g1 := BG.cell 1; have zb := BR.lt; have HB := Lib.hid (Ext.trans (alloc2 w _ _).2.2 hb1); have BR0 := Lib.hid BR; have BG0 := Lib.hid BG; clear BR BG hb1)
  refine wp_region_head 8 [11, 12, 13, 14, 15, 16, 17, 4] (R3 w.heap.size w1.heap.size nw pe ne ce (dedup (sortBy lessE E))) (by kernel_rfl) (by kernel_rfl) (by kernel_rfl) R3_mono ?_ ?_
  · refine allLt_succ (allLt_succ (allLt_succ (allLt_succ (allLt_succ (allLt_succ (allLt_succ (allLt_succ allLt_zero ?_) ?_) ?_) ?_) ?_) ?_) ?_) ?_ <;> intro ev vs W2 hE2 hin hout hcs hf hg hd o ho <;> obtain rfl := Option.some.inj ho
    · have e1 := hout 1 rfl
      simp [go_sem] at e1
      simp [execOp, go_sem, e1]
      exact ⟨rfl, Below.refl _ _⟩
    · have e1 : _ = Value.pointer _ := (hin 11 0 rfl).trans (hd 0 (by decide))
      have c := (BG0.out.ext hE2).cell 0
      simp [execOp, go_sem, e1, c]
      exact ⟨rfl, Below.refl _ _⟩
    · have e1 := hout 1 rfl
      simp [go_sem] at e1
      simp [execOp, go_sem, e1]
      exact ⟨rfl, Below.refl _ _⟩
    · have e1 : _ = Value.pointer _ := (hin 13 2 rfl).trans (hd 2 (by decide))
      have c := (BG0.out.ext hE2).cell 1
      simp [execOp, go_sem, e1, c]
      exact ⟨rfl, Below.refl _ _⟩
    · have e1 := hf 82
      simp [go_sem] at e1
      simp [execOp, go_sem, e1]
      exact (EdgesG W2).mono fun e w' ⟨h1, h2⟩ => ⟨_, h1, rfl, h2⟩
    · have e1 := hf 81
      have e2 : _ = Value.slice _ _ _ := (hin 14 3 rfl).trans (hd 3 (by decide))
      have e3 : _ = Value.agg _ := (hin 15 4 rfl).trans (hd 4 (by decide))
      simp [go_sem] at e1
      simp [execOp, go_sem, e1, e2, e3]
      exact (OnceE _ _ _ E W2 (HE.out.ext (Ext.trans HB.out hE2)) (by omega)).mono fun e w' ⟨q, c, h1, h2, h3⟩ => ⟨_, h1, ⟨q, c, rfl, own_base h2 hE2.size⟩, h3⟩
    · have e1 : _ = Value.int _ _ := (hin 12 1 rfl).trans (hd 1 (by decide))
      obtain ⟨q, c, e2, e3⟩ := (hd 5 (by decide) : R3 _ _ _ _ _ _ _ 5 (vs 5) W2)
      have e4 := (hin 16 5 rfl).trans e2
      simp [execOp, go_sem, e1, e4]
      exact ⟨⟨q, c, rfl, e3⟩, Below.refl _ _⟩
    · simp [execOp, go_sem]
      exact ⟨⟨_, rfl, hE2.size, Blk.new _ _ _⟩, (Below.refl _ _).alloc (Nat.le_refl _) _⟩
  · intro vs W2 hE2 hR
    have r0 : vs 0 = _ := hR 0 (by decide)
    have r1 : vs 1 = _ := hR 1 (by decide)
    have r2 : vs 2 = _ := hR 2 (by decide)
    have r3 : vs 3 = _ := hR 3 (by decide)
    have r4 : vs 4 = _ := hR 4 (by decide)
    obtain ⟨q5, c5, r5, _⟩ := hR 5 (by decide)
    obtain ⟨q, cq, r6, own⟩ := hR 6 (by decide)
    obtain ⟨g, r7, hg, BO⟩ := hR 7 (by decide)
    simp only [putHd, List.mapIdx_toArray, List.mapIdx_cons, List.mapIdx_nil, Nat.zero_add, Nat.reduceAdd]
    simp [List.idxOf?_cons, List.idxOf?_nil, r0, r1, r2, r3, r4, r5, r6, r7]
    have s2 := hE2.size
    have hbw : w.heap.size + 1 < W2.heap.size := by omega
    have B1 := BO.set_ 0 (.int .i64 nw)
    have B2 := B1.set_ 1 (.slice q (dedup (sortBy lessE E)).length cq)
    have B3 := B2.set_ 2 (.slice none 0 0)
    have BOx := Lib.hid B3
    have OEx := Lib.hid (own_set (own_set (own_set own BO (by decide) 0 (.int .i64 nw)) B1 (by decide) 1 (.slice q (dedup (sortBy lessE E)).length cq)) B2 (by decide) 2 (.slice none 0 0))
    have b0 := BO.cell 0
    have b1 := BO.cell 1
    have b2 := BO.cell 2
    have f0 := BO.frozen 0
    have f1 := BO.frozen 1
    have f2 := BO.frozen 2
    have HGL := Lib.hid BO.lt
    have hgw : w.heap.size + 1 < g := by omega
    have BGx := Lib.hid ((((BG0.out.ext hE2).far (p := ⟨g, 0, none⟩) (by simp; omega) (.int .i64 nw)).far (p := ⟨g, 1, none⟩) (by simp; omega) (.slice q (dedup (sortBy lessE E)).length cq)).far (p := ⟨g, 2, none⟩) (by simp; omega) (.slice none 0 0))
    have BRx := Lib.hid ((((BR0.out.ext hE2).far (p := ⟨g, 0, none⟩) (by simp; omega) (.int .i64 nw)).far (p := ⟨g, 1, none⟩) (by simp; omega) (.slice q (dedup (sortBy lessE E)).length cq)).far (p := ⟨g, 2, none⟩) (by simp; omega) (.slice none 0 0))
    have HX := Lib.hid ((((Ext.trans HB.out hE2).setCell (p := ⟨g, 0, none⟩) (by simp; omega) (.int .i64 nw)).setCell (p := ⟨g, 1, none⟩) (by simp; omega) (.slice q (dedup (sortBy lessE E)).length cq)).setCell (p := ⟨g, 2, none⟩) (by simp; omega) (.slice none 0 0))
    have gx := BGx.out.cell 2
    clear g0 g1 BG0 BR0 HB B1 B2 B3 own BO
    go_wp2
    go_loopw [6, 21] (fun _ i wr => ∃ (j : Nat) (qh : Option Addr) (ch : Nat) (hs' : List Hd), j ≤ nw ∧ i = .int .i64 j ∧ OwnW wr W2.heap.size qh j ch hs' ((W.take j).map fun l => dedup (sortBy sLess l)) ∧ wr.ownsRow w1.heap.size 71 2 (.slice q (dedup (sortBy lessE E)).length cq) (dedup (sortBy lessE E)).length (encE (dedup (sortBy lessE E))) ∧
        Blk wr w.heap.size 25 #[.int .i64 nw, .slice pe ne ce, .slice pw nw cw] ∧ Blk wr (w.heap.size + 1) 25 #[.int .i64 0, .slice none 0 0, .slice none 0 0] ∧ Blk wr g 25 #[.int .i64 nw, .slice q (dedup (sortBy lessE E)).length cq, .slice qh j ch] ∧ Ext w wr ∧ W2.heap.size ≤ wr.heap.size) (fun _ i _ => nw - (intOf i).toNat)
    case atStart => exact ⟨0, none, 0, [], Nat.zero_le _, rfl, OwnW.nil _ _, OEx.out, BGx.out, BRx.out, BOx.out, HX.out, by simp [World.setCell]⟩
    case round =>
      clear gx OEx BGx BRx BOx HX
      obtain ⟨j, qh, ch, hs', hj, rfl, OW, OE, BG, BR, BO, HB, HZZ⟩ := hrel
      have g2 := BG.cell 2
      have o0 := BO.cell 0
      have o1 := BO.cell 1
      have o2 := BO.cell 2
      have r0 := BR.cell 0
      have r1 := BR.cell 1
      have r2 := BR.cell 2
      have q0 := BR.frozen 0
      have q1 := BR.frozen 1
      have q2 := BR.frozen 2
      have OW0 := Lib.hid OW; clear OW
      have OE0 := Lib.hid OE; clear OE
      have BG0 := Lib.hid BG; clear BG
      have BR0 := Lib.hid BR; clear BR
      have BO0 := Lib.hid BO; clear BO
      have HB0 := Lib.hid HB; clear HB
      by_cases hjt : j < nw
      · have gh := HB0.out.cell (HW.out.row.cH hjt)
        have QS := Lib.hid ((HW.out.each j hjt).ext HB0.out)
        have hlen : (nth hs j).n ≤ 8 := by rw [QS.out.nS]; exact H9.out _ (by rw [nth_eq (by rw [← L2.out]; exact hjt)]; exact List.getElem_mem _)
        have HT2 := Lib.hid (map_take_succ (fun l => dedup (sortBy sLess l)) W j (by rw [← L2.out]; exact hjt))
        have m1 : (nth hs j).n ≤ 1000000 := by omega
        have m3 : (j + 1) * 24 ≤ 140737488355328 := by omega
        have m4 : j + 1 ≤ 140737488355328 := by omega
        have M3 := Lib.hid m3; clear m3
        have M4 := Lib.hid m4; clear m4
        go_wp2
        refine wp_region_head 6 [25, 26, 27, 28, 29, 30] (R7 wr.heap.size g qh j ch (nth hs j).p (nth hs j).n (nth hs j).c (dedup (sortBy sLess (nth W j)))) (by kernel_rfl) (by kernel_rfl) (by kernel_rfl) R7_mono ?_ ?_
        · refine allLt_succ (allLt_succ (allLt_succ (allLt_succ (allLt_succ (allLt_succ allLt_zero ?_) ?_) ?_) ?_) ?_) ?_ <;> intro ev vs W3 hE3 hin hout hcs hf hg3 hd o ho <;> obtain rfl := Option.some.inj ho
          · have e1 := hout 4 rfl
            simp [go_sem] at e1
            simp [execOp, go_sem, e1]
            exact ⟨rfl, Below.refl _ _⟩
          · have e1 : _ = Value.pointer _ := (hin 25 0 rfl).trans (hd 0 (by decide))
            have c := (BO0.out.ext hE3).cell 2
            simp [execOp, go_sem, e1, c]
            exact ⟨rfl, Below.refl _ _⟩
          · have e1 := hout 6 rfl
            simp [go_sem] at e1
            simp [execOp, go_sem, e1]
            exact ⟨rfl, Below.refl _ _⟩
          · have e1 := hf 84
            simp [go_sem] at e1
            simp [execOp, go_sem, e1]
            exact (WordsG W3).mono fun e w' ⟨h1, h2⟩ => ⟨_, h1, rfl, h2⟩
          · have e1 := hf 83
            have e2 : _ = Value.slice _ _ _ := (hin 27 2 rfl).trans (hd 2 (by decide))
            have e3 : _ = Value.agg _ := (hin 28 3 rfl).trans (hd 3 (by decide))
            simp [go_sem] at e1
            simp [execOp, go_sem, e1, e2, e3]
            exact (OnceS _ _ _ (nth W j) W3 (QS.out.ext hE3) (by omega)).mono fun e w' ⟨q, c, h1, h2, h3⟩ => ⟨_, h1, ⟨q, c, rfl, own_base h2 hE3.size⟩, h3⟩
          · obtain ⟨q, c, e2, e3⟩ := (hd 4 (by decide) : R7 _ _ _ _ _ _ _ _ _ 4 (vs 4) W3)
            have e4 := (hin 29 4 rfl).trans e2
            simp [execOp, go_sem, e4]
            exact ⟨⟨q, c, _, rfl, Rd.oneH _ _ _ _ _, e3.alloc _⟩, (Below.refl _ _).alloc (Nat.le_refl _) _⟩
        · intro vs W3 hE3 hR3
          have r0 : vs 0 = _ := hR3 0 (by decide)
          have r1 : vs 1 = _ := hR3 1 (by decide)
          have r2 : vs 2 = _ := hR3 2 (by decide)
          have r3 : vs 3 = _ := hR3 3 (by decide)
          obtain ⟨q4, c4, r4, _⟩ := hR3 4 (by decide)
          obtain ⟨p', d', a', r5, RA, OR⟩ := hR3 5 (by decide)
          have OR1 := Lib.hid (own_base OR HZZ)
          have RA1 := Lib.hid RA
          have HX2 := Lib.hid hE3
          have OW2 := Lib.hid (OW0.out.ext hE3)
          have BO2 := Lib.hid (BO0.out.ext hE3)
          have BG2 := Lib.hid (BG0.out.ext hE3)
          have BR2 := Lib.hid (BR0.out.ext hE3)
          have OE2 := Lib.hid (hE3.own OE0.out)
          have HB2 := Lib.hid (Ext.trans HB0.out hE3)
          have hz3 : W2.heap.size ≤ W3.heap.size := Nat.le_trans HZZ hE3.size
          simp only [putHd, List.mapIdx_toArray, List.mapIdx_cons, List.mapIdx_nil, Nat.zero_add, Nat.reduceAdd]
          simp [List.idxOf?_cons, List.idxOf?_nil, r0, r1, r2, r3, r4, r5]
          clear r0 r1 r2 r3 r4 r5 OR RA hE3 hR3
          go_wp2_with (at_builtin; go_must ((refine wpList_append_rd rfl _ _ _ rfl W2.heap.size 35 j0 _ 1 24 Try.underlying23 hj0 hy0 hy1 hy2 rfl (by omega) qh j ch _ rfl OW2.out.row a' 1 1 _ rfl RA1.out (one_slice _ _ _) M3.out M4.out hz3 ?_; intro q3 c3 w3 own3 hg3 hat3 hl3; have BO3 : Blk w3 g _ _ := (hl3.block g HGL.out).trans BO2.out; have BG3 : Blk w3 w.heap.size _ _ := (hl3.block _ (by omega)).trans BG2.out; have BR3 : Blk w3 (w.heap.size + 1) _ _ := (hl3.block _ (by omega)).trans BR2.out; have HB3 := Lib.hid (Below.trans HB2.out (hl3.mono (by omega))); have OE3 := Lib.hid (own_grown OE2.out hg3 (own_own_ne OW2.out.row OE2.out (by decide))); have OW3 := Lib.hid (OwnW.push OW2.out OR1.out own3 hg3); have x2 := BO3.cell 2; have xf := BO3.frozen 2; have BO4 := Lib.hid BO3; have BG4 := Lib.hid BG3; have BR4 := Lib.hid BR3; have HS3 := hl3.size; clear own3 hg3 hat3 hl3 BO3 BG3 BR3)))
          go_roundw
          case rel => exact ⟨j + 1, q3, c3, _, by omega, by go_num, by rw [HT2.out]; exact OW3.out.set_ BO4.out (by decide) (by decide) _ _, own_set OE3.out BO4.out (by decide) _ _, BG4.out.far (by simp; omega) _, BR4.out.far (by simp; omega) _, BO4.out.set_ 2 _, HB3.out.setCell (by simp; omega) _, by simp [World.setCell]; omega⟩
          case measure => simp [intOf]; omega
      · have hjn : j = nw := by omega
        subst hjn
        have HT2 : Hid ((W.take j).map (fun l => dedup (sortBy sLess l)) = W.map (fun l => dedup (sortBy sLess l))) := by unfold Hid; rw [List.take_of_length_le (by rw [← L2.out]; omega)]
        go_wp2
        have B0 := BR0.out
        have B1 := B0.set_ 0 (.int .i64 j)
        have B2 := B1.set_ 1 (.slice q (dedup (sortBy lessE E)).length cq)
        have c0 := (B2.set_ 2 (.slice qh j ch)).cell 0
        have c1' := (B2.set_ 2 (.slice qh j ch)).cell 1
        have c2 := (B2.set_ 2 (.slice qh j ch)).cell 2
        refine bodyPost_ret (v := .tuple #[.agg #[.int .i64 j, .slice q (dedup (sortBy lessE E)).length cq, .slice qh j ch], .int .i64 0]) (by simp [results, Try.results46, go_sem, c0, c1', c2, Try.sizeOf25, Try.isAgg25]) rfl ⟨_, rfl, ?_, ?_⟩
        · have OW := ((OW0.out.set_ B0 (by decide) (by decide) 0 (.int .i64 j)).set_ B1 (by decide) (by decide) 1 (.slice q (dedup (sortBy lessE E)).length cq)).set_ B2 (by decide) (by decide) 2 (.slice qh j ch)
          have OE := own_set (own_set (own_set OE0.out B0 (by decide) 0 (.int .i64 j)) B1 (by decide) 1 (.slice q (dedup (sortBy lessE E)).length cq)) B2 (by decide) 2 (.slice qh j ch)
          rw [HT2.out] at OW
          have hl := OW.len
          exact ⟨q, cq, qh, ch, hs', by rw [← hl], own_base OE (by omega), by rw [← hl]; exact ⟨OW.hn, own_base OW.row (by omega), fun j hj => own_base (OW.each j hj) (by omega)⟩⟩
        · exact ((HB0.out.setCell (by simp) _).setCell (by simp) _).setCell (by simp) _
theorem NormalG0 (N : Int) (pe : Option Addr) (ne ce : Nat) (pw : Option Addr) (nw cw : Nat) (E : List (Int × Int)) (hs : List Hd) (W : List (List ByteArray)) (w : World) (hE : Rd w 2 pe ne (encE E)) (hW : RdW w pw nw hs W) (hz : SzW W) :
    Calls Try.prog 46 #[.agg #[.int .i64 N, .slice pe ne ce, .slice pw nw cw]] w fun e w' => ∃ v, e = .returned (.tuple #[v, .int .i64 (normC N E W)]) ∧ GraphO w' w.heap.size v (if checkB N E W then N else 0) (if checkB N E W then dedup (sortBy lessE E) else []) (if checkB N E W then W.map fun l => dedup (sortBy sLess l) else []) ∧ Ext w w' := by
  unfold normC
  by_cases hc : checkB N E W = true
  · simp only [hc, if_true]
    exact NormalG_yes N pe ne ce pw nw cw E hs W w hE hW hz hc
  · have hc' : checkB N E W = false := by simpa using hc
    simp only [hc']
    refine (NormalG_no N pe ne ce pw nw cw E hs W w hE hW hz hc').mono fun e w' ⟨he, hb⟩ => ⟨_, he, ?_, hb⟩
    exact ⟨none, 0, none, 0, [], rfl, World.ownsRow_nil _ _ _ _, OwnW.nil _ _⟩
end Go.Proofs.Ytcjkechemjdboaa
