/- The law GraphNormal: a graph may be, or not, is normal, or not, and just this one is normal of it. -/
import Derived.Test.YtlkngeflikecgaaCan
import Derived.Test.YtlkngeflikecgaaLSums
import Derived.Test.YtlkngeflikecgaaR9
import Derived.Test.YtlkngeflikecgaaR10
namespace Go.Proofs.Ytlkngeflikecgaa
open Go Go.RowKit Go.Shelf Go.Lib Go.Sort
theorem lens_of_big {E : List (Int × Int)} {W : List (List ByteArray)} (h : bigB E W = false) : E.length ≤ 2100 ∧ W.length ≤ 250 ∧ ∀ l ∈ W, l.length ≤ 20 := by
  unfold bigB at h
  simp only [Bool.or_eq_false_iff, Bool.and_eq_false_iff] at h
  obtain ⟨⟨⟨h1, h2⟩, _⟩, h4⟩ := h
  have hw : W.length ≤ 250 := by simpa using h2
  refine ⟨by simpa using h4, hw, fun l hl => ?_⟩
  have hb : W.any badRow = false := by
    rcases h1 with h1 | h1
    · simp at h1; omega
    · exact h1
  have h3 := List.any_eq_false.1 hb l hl
  unfold badRow at h3
  simp at h3
  omega
theorem norm_lens (N : Int) (E : List (Int × Int)) (W : List (List ByteArray)) (h1 : E.length ≤ 2100) (h2 : W.length ≤ 250) (h3 : ∀ l ∈ W, l.length ≤ 20) : (normE N E W).length ≤ 2100 ∧ (normW N E W).length ≤ 250 ∧ ∀ l ∈ normW N E W, l.length ≤ 20 := by
  unfold normE normW
  by_cases hc : checkB N E W = true
  · simp only [hc, if_true]
    refine ⟨Nat.le_trans (putAll_len _ _) h1, by rw [List.length_map]; exact h2, fun l hl => ?_⟩
    obtain ⟨l', hl', rfl⟩ := List.mem_map.1 hl
    exact Nat.le_trans (putAll_len _ _) (h3 l' hl')
  · have : checkB N E W = false := by simpa using hc
    simp only [this, Bool.false_eq_true, if_false]
    exact ⟨by simp, by simp, fun l hl => by cases hl⟩
set_option maxRecDepth 100000 in
set_option maxHeartbeats 8000000 in
theorem lawNormal (N : Int) (pe : Option Addr) (ne ce : Nat) (pw : Option Addr) (nw cw : Nat) (E : List (Int × Int)) (hs : List Hd) (W : List (List ByteArray)) (w : World) (s : ByteArray) (hE : Rd w 2 pe ne (encE E)) (hW : RdW w pw nw hs W) : Calls Try.prog 3 #[.agg #[.int .i64 N, .slice pe ne ce, .slice pw nw cw], .string s] w fun e w' => e = .returned (.bool true) ∧ Ext w w' := by
  have HBig := Lib.hid (fun W1 (h : Ext w W1) => Big02 N pe ne ce pw nw cw E hs W W1 (hE.ext h) (hW.ext h))
  have hx : Ext w (w.alloc (.cells #[.int .i64 N, .slice pe ne ce, .slice pw nw cw] 25)) := Ext.alloc (Below.refl _ _) _
  have hblk := Lib.hid (Blk.new w 25 #[.int .i64 N, .slice pe ne ce, .slice pw nw cw])
  by_cases hbig : bigB E W = true
  · rw [hbig] at HBig
    clear hE hW
    go_enter Try.func3, Try.ntmps3
    go_wp2_with (go_at_call 8; go_must (refine (HBig.out _ hx).mono ?_; rintro e w1 ⟨rfl, hb1⟩; have B1 := Lib.hid (Ext.trans hx hb1); clear hb1))
    go_ret
    exact ⟨rfl, B1.out⟩
  · have hbig' : bigB E W = false := by simpa using hbig
    have hz := szW_of_big hbig'
    obtain ⟨l1, l2, l3⟩ := lens_of_big hbig'
    rw [hbig'] at HBig
    clear hbig hbig'
    by_cases hlen : 100 < s.size
    · have hlen2 : decide ((100 : Int) < (s.size : Int)) = true := by simp; omega
      clear hE hW
      go_enter Try.func3, Try.ntmps3
      go_wp2_with (go_at_call 8; go_must (refine (HBig.out _ hx).mono ?_; rintro e w1 ⟨rfl, hb1⟩; have B1 := Lib.hid (Ext.trans hx hb1); clear hb1))
      go_ret
      exact ⟨rfl, B1.out⟩
    · have hlen2 : decide ((100 : Int) < (s.size : Int)) = false := by simp; omega
      have n1 := hE.nE
      have n2 := hW.nW
      have hs9 : s.size ≤ 140737488355328 := by omega
      have HOwn := Lib.hid (fun W1 (h : Ext w W1) => Own02 N pe ne ce pw nw cw E hs W W1 (hE.ext h) (hW.ext h) (by omega) (by omega) (fun l hl => Nat.le_trans (l3 l hl) (by omega)))
      have HN := Lib.hid (fun W1 (h : Ext w W1) => NormalG N pe ne ce pw nw cw E hs W W1 (hE.ext h) (hW.ext h) hz)
      have HCk := Lib.hid (fun W1 (h : Ext w W1) => CheckG N pe ne ce pw nw cw E hs W W1 (hE.ext h) (hW.ext h) hz)
      have HIs := Lib.hid (fun W1 (h : Ext w W1) => IsG N pe ne ce pw nw cw E hs W W1 (hE.ext h) (hW.ext h) hz)
      have HRef := Lib.hid (fun po no co pq mo do' ho W1 (h1 : Rd W1 2 po no (encE E)) (h2 : RdW W1 pq mo ho W) => Normal02 N po no co pq mo do' E ho W W1 h1 h2 hz)
      have HCk2 := Lib.hid (fun po no co pq mo do' ho W1 (h1 : Rd W1 2 po no (encE E)) (h2 : RdW W1 pq mo ho W) => Check02 N po no co pq mo do' E ho W W1 h1 h2 hz)
      have HIs2 := Lib.hid (fun po no co pq mo do' ho W1 (h1 : Rd W1 2 po no (encE E)) (h2 : RdW W1 pq mo ho W) => Is02 N po no co pq mo do' E ho W W1 h1 h2 hz)
      have HWg : Hid (∀ W1, Calls Try.prog 17 #[.string s] W1 fun e w' => e = .returned (.bool (wordB s)) ∧ Ext W1 w') := fun W1 => (WordG s W1 hs9).mono fun e w' ⟨h, hw⟩ => ⟨h, by subst hw; exact Below.refl _ _⟩
      have HWr : Hid (∀ W1, Calls Try.prog 18 #[.string s] W1 fun e w' => e = .returned (.bool (wordB s)) ∧ Ext W1 w') := fun W1 => (Word02 s W1 hs9).mono fun e w' ⟨h, hw⟩ => ⟨h, by subst hw; exact Below.refl _ _⟩
      have HSame2 := Lib.hid (fun po no co pq mo do' ho W1 (h3 : Rd W1 2 pe ne (encE E)) (h4 : RdW W1 pw nw hs W) (h1 : Rd W1 2 po no (encE E)) (h2 : RdW W1 pq mo ho W) => Same02 N pe ne ce pw nw cw E hs W N po no co pq mo do' E ho W W1 h3 h4 h1 h2)
      have hself : ∀ M D V, sameB M D V M D V = true := fun M D V => by simp [sameB]
      rw [hself] at HSame2
      obtain ⟨lD, lV, lV2⟩ := norm_lens N E W l1 l2 l3
      have HE := Lib.hid hE
      have HW := Lib.hid hW
      clear hE hW hz l1 l2 l3 n1 n2
      generalize normN N E W = M at *
      generalize normE N E W = D at *
      generalize normW N E W = V at *
      generalize normC N E W = cc at *
      generalize checkB N E W = bc at *
      generalize isB N E W = bi at *
      generalize wordB s = bs at *
      have LV2 := Lib.hid lV2
      clear lV2
      go_enter Try.func3, Try.ntmps3
      go_wp2_with (first
        | (go_at_call 11; have _t := B3; go_must (refine (HRef.out po no co pq mo do' ho _ (RO.out.ext (Ext.alloc (Ext.trans (Ext.alloc (Below.refl _ _) _) B23.out) _)) (RP.out.ext (Ext.alloc (Ext.trans (Ext.alloc (Below.refl _ _) _) B23.out) _))).mono ?_; rintro e w4 ⟨vb, rfl, ⟨pb, nb, cb, pd, nd, cd, hb', rfl, rb, _, rd, _⟩, hb4⟩; have RB := Lib.hid rb; have RD := Lib.hid rd; have B34 := Lib.hid (Ext.trans (Ext.alloc (Below.refl w3.heap.size w3) _) hb4); have KA := Lib.hid ((Blk.new w3 25 #[.int .i64 M, .slice q D.length cq, .slice qh V.length ch]).ext hb4); clear rb rd hb4))
        | (go_at_call 10; have _t := B2; go_must (refine (HN.out _ (Ext.alloc B2.out _)).mono ?_; rintro e w3 ⟨va, rfl, ⟨q, cq, qh, ch, ha, rfl, oe, ow⟩, hb3⟩; have OE := Lib.hid oe; have OW := Lib.hid ow; have B23 := Lib.hid hb3; have B3 := Lib.hid (Ext.trans (Ext.alloc B2.out _) hb3); have KO := Lib.hid ((Blk.new w2 25 #[.int .i64 N, .slice po no co, .slice pq mo do']).ext hb3); have o0 := KO.out.cell 0; have o1 := KO.out.cell 1; have o2 := KO.out.cell 2; have z3 : w2.heap.size < w3.heap.size := KO.out.lt; clear oe ow hb3 c0 c1 c2))
        | (go_at_call 9; have _t := B1; go_must (refine (HOwn.out _ B1.out).mono ?_; rintro e w2 ⟨vo, rfl, ⟨po, no, co, pq, mo, do', ho, rfl, ro, _, rp, _⟩, hb2⟩; have RO := Lib.hid ro; have RP := Lib.hid rp; have B2 := Lib.hid (Ext.trans B1.out hb2); have K2 := Lib.hid (K1.out.ext hb2); have z2 : w.heap.size < w2.heap.size := K2.out.lt; clear ro rp hb2 c0 c1 c2; have c0 := K2.out.cell 0; have c1 := K2.out.cell 1; have c2 := K2.out.cell 2))
        | (go_at_call 8; go_must (refine (HBig.out _ hx).mono ?_; rintro e w1 ⟨rfl, hb1⟩; have B1 := Lib.hid (Ext.trans hx hb1); have K1 := Lib.hid (hblk.out.ext hb1); clear hb1; have c0 := K1.out.cell 0; have c1 := K1.out.cell 1; have c2 := K1.out.cell 2)))
      obtain ⟨X, hX⟩ : ∃ X, X = w4.alloc (.cells #[.int .i64 M, .slice pb nb cb, .slice pd nd cd] 25) := ⟨_, rfl⟩
      have X4 : Ext w4 X := by rw [hX]; exact Ext.alloc (Below.refl _ _) _
      have KB : Blk X w4.heap.size 25 #[.int .i64 M, .slice pb nb cb, .slice pd nd cd] := by rw [hX]; exact Blk.new _ _ _
      rw [← hX]
      clear hX
      have X3 : Ext w3 X := Ext.trans B34.out X4
      have KA2 := KA.out.ext X4
      have KO2 := KO.out.ext X3
      have KG2 := ((K2.out.alloc (.cells #[.int .i64 N, .slice po no co, .slice pq mo do'] 25)).ext B23.out).ext X3
      have X2 : Ext w2 X := Ext.trans (Ext.trans (Ext.alloc (Below.refl _ _) _) B23.out) X3
      have ra := Rd.of_own OE.out (by omega)
      have rw' := OW.out.rd (by omega) (fun l hl => Nat.le_trans (LV2.out l hl) (by omega))
      have HSm : Hid (∀ x : ExtOf X, Calls Try.prog 12 #[.agg #[.int .i64 M, .slice q D.length cq, .slice qh V.length ch], .agg #[.int .i64 M, .slice pb nb cb, .slice pd nd cd]] x.val fun e w' => e = .returned (.bool true) ∧ Ext x.val w') := fun x => by
        have := Same02 M q D.length cq qh V.length ch D ha V M pb nb cb pd nd cd D hb' V x.val (ra.ext (Ext.trans X3 x.ext)) (rw'.ext (Ext.trans X3 x.ext)) (RB.out.ext (Ext.trans X4 x.ext)) (RD.out.ext (Ext.trans X4 x.ext))
        rw [hself] at this
        exact this
      have HCg : Hid (∀ x : ExtOf X, _) := fun x => HCk.out x.val (Ext.trans B2.out (Ext.trans X2 x.ext))
      have HIg : Hid (∀ x : ExtOf X, _) := fun x => HIs.out x.val (Ext.trans B2.out (Ext.trans X2 x.ext))
      have HCr : Hid (∀ x : ExtOf X, _) := fun x => HCk2.out po no co pq mo do' ho x.val (RO.out.ext (Ext.trans X2 x.ext)) (RP.out.ext (Ext.trans X2 x.ext))
      have HIr : Hid (∀ x : ExtOf X, _) := fun x => HIs2.out po no co pq mo do' ho x.val (RO.out.ext (Ext.trans X2 x.ext)) (RP.out.ext (Ext.trans X2 x.ext))
      clear o0 o1 o2
      have a0 : ∀ x : ExtOf X, x.val.cell? ⟨w3.heap.size, 0, none⟩ = _ := fun x => x.ext.cell (KA2.cell 0)
      have a1 : ∀ x : ExtOf X, x.val.cell? ⟨w3.heap.size, 1, none⟩ = _ := fun x => x.ext.cell (KA2.cell 1)
      have a2 : ∀ x : ExtOf X, x.val.cell? ⟨w3.heap.size, 2, none⟩ = _ := fun x => x.ext.cell (KA2.cell 2)
      have b0 : ∀ x : ExtOf X, x.val.cell? ⟨w4.heap.size, 0, none⟩ = _ := fun x => x.ext.cell (KB.cell 0)
      have b1 : ∀ x : ExtOf X, x.val.cell? ⟨w4.heap.size, 1, none⟩ = _ := fun x => x.ext.cell (KB.cell 1)
      have b2 : ∀ x : ExtOf X, x.val.cell? ⟨w4.heap.size, 2, none⟩ = _ := fun x => x.ext.cell (KB.cell 2)
      have c0 : ∀ x : ExtOf X, x.val.cell? ⟨w.heap.size, 0, none⟩ = _ := fun x => x.ext.cell (KG2.cell 0)
      have c1 : ∀ x : ExtOf X, x.val.cell? ⟨w.heap.size, 1, none⟩ = _ := fun x => x.ext.cell (KG2.cell 1)
      have c2 : ∀ x : ExtOf X, x.val.cell? ⟨w.heap.size, 2, none⟩ = _ := fun x => x.ext.cell (KG2.cell 2)
      have o0 : ∀ x : ExtOf X, x.val.cell? ⟨w2.heap.size, 0, none⟩ = _ := fun x => x.ext.cell (KO2.cell 0)
      have o1 : ∀ x : ExtOf X, x.val.cell? ⟨w2.heap.size, 1, none⟩ = _ := fun x => x.ext.cell (KO2.cell 1)
      have o2 : ∀ x : ExtOf X, x.val.cell? ⟨w2.heap.size, 2, none⟩ = _ := fun x => x.ext.cell (KO2.cell 2)
      refine wp_region_ext (by kernel_rfl) (by kernel_rfl) ?_
      repeat (go_big_quiet_step ((first | (go_at_call 12; exact Calls.ext_of (HSm.out _)) | (go_at_call 13; exact Calls.ext_of (HCg.out _)) | (go_at_call 14; exact Calls.ext_of (HCr.out _)) | (go_at_call 15; exact Calls.ext_of (HIg.out _)) | (go_at_call 16; exact Calls.ext_of (HIr.out _)) | (go_at_call 17; exact Calls.ext_of (HWg.out _)) | (go_at_call 18; exact Calls.ext_of (HWr.out _)))))
      refine wpQuiet_nil ?_
      rintro w5 ⟨⟨_, hb5⟩, rfl⟩
      have E35 : Ext w3 w5 := Ext.trans X3 hb5
      have HS0 : Hid (Smudge w5 w5 (w2.heap.size + 1) w3.heap.size q D.length qh V.length ch ha #[.int .i64 M, .slice q D.length cq, .slice qh V.length ch]) :=
        ⟨Below.refl _ _, (Can.of_own (own_base OE.out (by simp))).ext E35, E35.own (own_base OW.out.row (by simp)), fun j hj => (by have := Can.ext (Can.of_own (own_base (b := w2.heap.size + 1) (OW.out.each j hj) (by simp))) E35; rw [Nat.mul_one] at this; exact this), KA2.ext hb5⟩
      have hn3 : Hid (∀ j, j < V.length → (nth ha j).n ≤ 20) := fun j hj => by
        have h := (OW.out.each j hj).1
        rw [encS_len, Nat.mul_one] at h
        rw [← h]
        exact LV2.out _ (by rw [nth_eq hj]; exact List.getElem_mem _)
      have KG5 := Lib.hid (KG2.ext hb5)
      have KO5 := Lib.hid (KO2.ext hb5)
      have E25 := Lib.hid (Ext.trans X2 hb5)
      have E5 := Lib.hid (Ext.trans B2.out E25.out)
      have hw5 : w2.heap.size + 1 ≤ w5.heap.size := by have := E35.size; omega
      clear a0 a1 a2 b0 b1 b2 c0 c1 c2 o0 o1 o2 KG2 KO2 KA2 KB X2 X3 X4 hb5 E35 ra rw' HSm HCg HIg HCr HIr OE OW RB RD KA KO K2 K1 hx hblk
      go_wp2
      go_loopw [11] (fun i wr => ∃ k : Nat, k ≤ D.length ∧ i = .int .i64 k ∧ Smudge w5 wr (w2.heap.size + 1) w3.heap.size q D.length qh V.length ch ha #[.int .i64 M, .slice q D.length cq, .slice qh V.length ch]) (fun i _ => D.length - (intOf i).toNat)
      case atStart => exact ⟨0, Nat.zero_le _, rfl, HS0.out⟩
      case round =>
        obtain ⟨k, hk, rfl, S⟩ := hrel
        have d0 := S.box.cell 0
        have d1 := S.box.cell 1
        have d2 := S.box.cell 2
        have p1 : SlP q D.length := S.ce.slp (k := 1)
        have z1 : w3.heap.size < wr.heap.size := S.box.lt
        by_cases hlt : k < D.length
        · obtain ⟨g, cur, u, hq, hgb, hg, he, hc, hf⟩ := S.ce.at (k := k * 2) (by omega)
          have hS := Lib.hid S
          have hG := Lib.hid hg
          have hE1 := Lib.hid he
          have hq1 := Lib.hid hq
          clear S hg he hq
          go_wp2
          go_roundw
          case rel => exact ⟨k + 1, by omega, by go_num, by rw [hE1.out]; exact hS.out.set_ hG.out hgb (by decide) (by decide) _⟩
          case measure => simp [intOf]; omega
        · have hS := Lib.hid S
          clear S HS0
          go_wp2
          clear d0 d1 d2 p1 z1
          obtain ⟨wo, rfl⟩ : ∃ wo : World, wo = wr := ⟨_, rfl⟩
          go_loopw [12, 13] (fun i _ wr => ∃ j : Nat, j ≤ V.length ∧ i = .int .i64 j ∧ Smudge w5 wr (w2.heap.size + 1) w3.heap.size q D.length qh V.length ch ha #[.int .i64 M, .slice q D.length cq, .slice qh V.length ch]) (fun i _ _ => V.length - (intOf i).toNat)
          case atStart => exact ⟨0, Nat.zero_le _, rfl, hS.out⟩
          case round =>
            clear hS
            obtain ⟨j, hj, rfl, S⟩ := hrel
            have d0 := S.box.cell 0
            have d1 := S.box.cell 1
            have d2 := S.box.cell 2
            have z1 : w3.heap.size < wr.heap.size := S.box.lt
            have rr := Rd.of_own S.row (by omega)
            have p2 := rr.ptr
            by_cases hjt : j < V.length
            · have hS := Lib.hid S
              have c1 : (0:Int) ≤ j := by omega
              have c2 : (j:Int) < V.length := by omega
              clear S rr
              go_wp2
              clear d0 d1 d2 z1 p2
              obtain ⟨wo2, rfl⟩ : ∃ wo2 : World, wo2 = wr := ⟨_, rfl⟩
              go_loopw [13] (fun i wr => ∃ k : Nat, k ≤ (nth ha j).n ∧ i = .int .i64 k ∧ Smudge w5 wr (w2.heap.size + 1) w3.heap.size q D.length qh V.length ch ha #[.int .i64 M, .slice q D.length cq, .slice qh V.length ch]) (fun i _ => (nth ha j).n - (intOf i).toNat)
              case atStart => exact ⟨0, Nat.zero_le _, rfl, hS.out⟩
              case round =>
                clear hS
                obtain ⟨k, hk, rfl, S⟩ := hrel
                have d0 := S.box.cell 0
                have d1 := S.box.cell 1
                have d2 := S.box.cell 2
                have z1 : w3.heap.size < wr.heap.size := S.box.lt
                have rr := Rd.of_own S.row (by omega)
                have p2 := rr.ptr
                have gh := rr.cH hjt
                have n3 := hn3.out j hjt
                have p3 : SlP (nth ha j).p (nth ha j).n := Can.slp (k := 0) (by rw [Nat.zero_add, Nat.mul_one]; exact S.each j hjt)
                by_cases hkt : k < (nth ha j).n
                · obtain ⟨g, cur, u, hq, hgb, hg, he, hc, hf⟩ := (S.each j hjt).at hkt
                  have hS := Lib.hid S
                  have hG := Lib.hid hg
                  have hE1 := Lib.hid he
                  have hq1 := Lib.hid hq
                  have e1 : (0:Int) ≤ k := by omega
                  have e2 : (k:Int) < (nth ha j).n := by omega
                  clear S hg he hq rr
                  go_wp2
                  go_roundw
                  case rel => exact ⟨k + 1, by omega, by go_num, by rw [hE1.out]; exact hS.out.set_ hG.out hgb (by decide) (by decide) _⟩
                  case measure => simp [intOf]; omega
                · have hS := Lib.hid S
                  clear S rr
                  go_wp2
                  go_roundw
                  case rel => exact ⟨j + 1, by omega, by go_num, hS.out⟩
                  case measure => simp [intOf]; omega
            · have HB5 := Lib.hid S.below
              have KG6 := Lib.hid (KG5.out.over S.below (by omega))
              have KO6 := Lib.hid (KO5.out.over S.below (by omega))
              have RG := Lib.hid (HE.out.over E5.out S.below (by omega))
              have RGW := Lib.hid (HW.out.over E5.out S.below (by omega))
              have RO6 := Lib.hid (RO.out.over E25.out S.below (by omega))
              have RP6 := Lib.hid (RP.out.over E25.out S.below (by omega))
              clear S rr
              go_wp2_with (first
                | (go_at_call 12; have _t := B7; go_must (refine (HSame2.out po no co pq mo do' ho _ (RG.out.ext B7.out) (RGW.out.ext B7.out) (RO6.out.ext B7.out) (RP6.out.ext B7.out)).mono ?_; rintro e w8 ⟨rfl, hb8⟩; have B8 := Lib.hid (Ext.trans B7.out hb8); clear hb8))
                | (go_at_call 19; go_must (refine (Graphs _).mono ?_; rintro e w7 ⟨rfl, hb7⟩; have B7 := Lib.hid hb7; have K7 := KG6.out.ext hb7; have c0 := K7.cell 0; have c1 := K7.cell 1; have c2 := K7.cell 2; have L7 := KO6.out.ext hb7; have o0 := L7.cell 0; have o1 := L7.cell 1; have o2 := L7.cell 2; clear hb7 d0 d1 d2)))
              go_ret
              exact ⟨rfl, Ext.trans (Below.trans E5.out (HB5.out.mono (by have := E5.out.size; omega))) B8.out⟩
end Go.Proofs.Ytlkngeflikecgaa
