/- The law GraphOrder: the order of edges plays no part, nor does one that is there twice. -/
import Derived.Test.YtlkngeflikecgaaLNormal
import Derived.Test.YtlkngeflikecgaaSep
import Derived.Test.YtlkngeflikecgaaMix
namespace Go.Proofs.Ytlkngeflikecgaa
open Go Go.RowKit Go.Shelf Go.Lib Go.Sort
theorem norm_same (N : Int) (E E2 : List (Int × Int)) (W : List (List ByteArray)) (h1 : E.length ≤ 2000) (h2 : E2.length ≤ 2000) (hm : ∀ x, x ∈ E2 ↔ x ∈ E) :
    normN N E2 W = normN N E W ∧ normE N E2 W = normE N E W ∧ normW N E2 W = normW N E W ∧ normC N E2 W = normC N E W := by
  have ha : E2.all (edgeOk N) = E.all (edgeOk N) := by
    rw [Bool.eq_iff_iff, List.all_eq_true, List.all_eq_true]
    exact ⟨fun h x hx => h x ((hm x).2 hx), fun h x hx => h x ((hm x).1 hx)⟩
  have hc : checkB N E2 W = checkB N E W := by unfold checkB; rw [ha]; simp [h1, h2]
  have hp : putAll lessE E2 = putAll lessE E := rises_uniq stoE _ _ (putAll_rises stoE _) (putAll_rises stoE _) fun x => by rw [putAll_mem stoE, putAll_mem stoE]; exact hm x
  unfold normN normE normW normC
  rw [hc, hp]
  exact ⟨rfl, rfl, rfl, rfl⟩
/-- from the end down to k -/
def backE (E : List (Int × Int)) (k : Nat) : List (Int × Int) := (E.drop k).reverse
theorem backE_step (E : List (Int × Int)) (k : Nat) (hk : 0 < k) (h : k ≤ E.length) : backE E (k - 1) = backE E k ++ [nth E (k - 1)] := by
  unfold backE
  rw [drop_nth E (k - 1) (by omega), List.reverse_cons, show k - 1 + 1 = k from by omega]
theorem backE_len (E : List (Int × Int)) (k : Nat) : (backE E k).length = E.length - k := by simp [backE]
/-- where the two edge lists have the same members both are normal alike -/
theorem back_mem (E : List (Int × Int)) : ∀ x, x ∈ backE E 0 ↔ x ∈ E := fun x => by simp [backE]
set_option maxRecDepth 100000 in
set_option maxHeartbeats 8000000 in
theorem lawOrder (N : Int) (pe : Option Addr) (ne ce : Nat) (pw : Option Addr) (nw cw : Nat) (E : List (Int × Int)) (hs : List Hd) (W : List (List ByteArray)) (w : World) (pt : Int) (hE : Rd w 2 pe ne (encE E)) (hW : RdW w pw nw hs W) : Calls Try.prog 4 #[.agg #[.int .i64 N, .slice pe ne ce, .slice pw nw cw], .int .i64 pt] w fun e w' => e = .returned (.bool true) ∧ Ext w w' := by
  have HBig := Lib.hid (fun W1 (h : Ext w W1) => Big02 N pe ne ce pw nw cw E hs W W1 (hE.ext h) (hW.ext h))
  have hx : Ext w (w.alloc (.cells #[.int .i64 N, .slice pe ne ce, .slice pw nw cw] 25)) := Ext.alloc (Below.refl _ _) _
  have hblk := Lib.hid (Blk.new w 25 #[.int .i64 N, .slice pe ne ce, .slice pw nw cw])
  obtain ⟨i0, hi0, hz0, hz1, hz2⟩ := info_parts inf34
  by_cases hbig : bigB E W = true
  · rw [hbig] at HBig
    clear hE hW
    go_enter Try.func4, Try.ntmps4
    go_wp2_with (go_at_call 8; go_must (refine (HBig.out _ hx).mono ?_; rintro e w1 ⟨rfl, hb1⟩; have B1 := Lib.hid (Ext.trans hx hb1); clear hb1))
    go_ret
    exact ⟨rfl, B1.out⟩
  · have hbig' : bigB E W = false := by simpa using hbig
    have hz := szW_of_big hbig'
    obtain ⟨l1, l2, l3⟩ := lens_of_big hbig'
    rw [hbig'] at HBig
    clear hbig hbig'
    by_cases hlen : 60 < ne
    · have hlen2 : decide ((60 : Int) < (ne : Int)) = true := by simp; omega
      clear hE hW
      go_enter Try.func4, Try.ntmps4
      go_wp2_with (go_at_call 8; go_must (refine (HBig.out _ hx).mono ?_; rintro e w1 ⟨rfl, hb1⟩; have B1 := Lib.hid (Ext.trans hx hb1); have K1 := Lib.hid (hblk.out.ext hb1); clear hb1; have c0 := K1.out.cell 0; have c1 := K1.out.cell 1; have c2 := K1.out.cell 2))
      go_ret
      exact ⟨rfl, B1.out⟩
    · have hlen2 : decide ((60 : Int) < (ne : Int)) = false := by simp; omega
      have n1 := hE.nE
      have p1 := hE.ptr
      have HN := Lib.hid (fun W1 (h : Ext w W1) => NormalG N pe ne ce pw nw cw E hs W W1 (hE.ext h) (hW.ext h) hz)
      have HNb : Hid (∀ (E2 : List (Int × Int)) (_ : E2.length ≤ 2000) (_ : ∀ x, x ∈ E2 ↔ x ∈ E) (W1 : World) (q : Option Addr) (m c : Nat) (_ : Rd W1 2 q m (encE E2)) (_ : Ext w W1), Calls Try.prog 10 #[.agg #[.int .i64 N, .slice q m c, .slice pw nw cw]] W1 fun e w' => ∃ v, e = .returned (.tuple #[v, .int .i64 (normC N E W)]) ∧ GraphO w' W1.heap.size v (normN N E W) (normE N E W) (normW N E W) ∧ Ext W1 w') := fun E2 h2 hm W1 q m c hr h => by
        obtain ⟨e1, e2, e3, e4⟩ := norm_same N E E2 W (by omega) h2 hm
        have := NormalG N q m c pw nw cw E2 hs W W1 hr (hW.ext h) hz
        rw [e1, e2, e3, e4] at this
        exact this
      have hself : ∀ M D V, sameB M D V M D V = true := fun M D V => by simp [sameB]
      obtain ⟨lD, lV, lV2⟩ := norm_lens N E W l1 l2 l3
      have HE := Lib.hid hE
      have HL := Lib.hid n1
      clear hE hW hz n1 l1 l2 l3
      generalize normN N E W = M at *
      generalize normE N E W = D at *
      generalize normW N E W = V at *
      generalize normC N E W = cc at *
      have LV2 := Lib.hid lV2
      clear lV2
      go_enter Try.func4, Try.ntmps4
      go_wp2_with (go_at_call 8; go_must (refine (HBig.out _ hx).mono ?_; rintro e w1 ⟨rfl, hb1⟩; have S1 := Lib.hid (((Sep.start w).al #[.int .i64 N, .slice pe ne ce, .slice pw nw cw] 25 w.heap.size rfl).call hb1); have c0 := (S1.out.blk 0 rfl).cell 0; have c1 := (S1.out.blk 0 rfl).cell 1; have c2 := (S1.out.blk 0 rfl).cell 2; have z1 := (S1.out.blk 0 rfl).lt; clear hb1))
      go_loopw [6] (fun i wr => ∃ (k : Nat) (q : Option Addr) (m c : Nat), k ≤ ne ∧ i = .int .i64 ((k : Int) - 1) ∧ Sep w wr [.own 34 2 q m c (encE (backE E k)), .blk w1.heap.size 25 #[.int .i64 N, .slice q m c, .slice pw nw cw], .blk w.heap.size 25 #[.int .i64 N, .slice pe ne ce, .slice pw nw cw]]) (fun i _ => (intOf i + 1).toNat)
      case atStart => exact ⟨ne, none, 0, 0, Nat.le_refl _, rfl, by rw [show backE E ne = [] from by unfold backE; rw [HL.out, List.drop_length]; rfl]; exact (S1.out.al #[.int .i64 N, .slice none 0 0, .slice pw nw cw] 25 w1.heap.size rfl).nilrow _ _⟩
      case round =>
        clear c0 c1 c2 S1
        obtain ⟨k, q, m, c, hk, rfl, S⟩ := hrel
        have hm : m ≤ 60 := by
          have h := (S.own 0 rfl).1
          rw [encE_len, backE_len] at h
          have := HL.out
          omega
        have o0 := (S.blk 1 rfl).cell 0
        have o1 := (S.blk 1 rfl).cell 1
        have o2 := (S.blk 1 rfl).cell 2
        have b0 := (S.blk 2 rfl).cell 0
        have b1 := (S.blk 2 rfl).cell 1
        have b2 := (S.blk 2 rfl).cell 2
        have SH := Lib.hid S; clear S
        by_cases hk0 : 0 < k
        · have kk0 : (0 : Int) ≤ (k : Int) - 1 := by omega
          have f1 : (1 : Int) ≤ k := by omega
          have f2 : (k : Int) - 1 < ne := by omega
          have g1 := SH.out.ext.cell (HE.out.cE (k := k - 1) (by omega))
          have g2 := SH.out.ext.cell (HE.out.cE2 (k := k - 1) (by omega))
          have hst := Lib.hid (backE_step E k hk0 (by rw [← HL.out]; exact hk))
          have xo1 := fun x : ExtOf wr => x.ext.cell o1
          have xb1 := fun x : ExtOf wr => x.ext.cell b1
          have xg1 := fun x : ExtOf wr => x.ext.cell g1
          have xg2 := fun x : ExtOf wr => x.ext.cell g2
          go_wp2
          refine wp_region_mix [true, true, true, true, true, true, true, false] (fun _ v W => ∃ p, v = .slice p 1 1 ∧ Rd W 2 p 1 (encE [nth E (k - 1)])) (by kernel_rfl) (by kernel_rfl) (by kernel_rfl) (fun _ _ _ _ hE ⟨p, h1, h2⟩ => ⟨p, h1, h2.ext hE⟩) ?_
          simp only [nfM]
          repeat (go_big_quiet_step ((fail)))
          refine wpQuiet_nil ⟨⟨fun vs W1 hE hd => ?_, trivial⟩, fun vs W1 hE hkn => ?_⟩
          · simp [putM, execOp, go_sem]
            exact ⟨Rd.one2 _ _ _ _, Ext.alloc (Below.refl _ _) _⟩
          · obtain ⟨⟨p', hv, RA⟩, _⟩ := hkn
            have HRA := Lib.hid RA; clear RA
            have S1 := Lib.hid (SH.out.call hE)
            simp only [putM, hv, List.length_cons, List.length_nil, Nat.zero_add, Nat.reduceAdd, List.drop_succ_cons, List.drop_zero]
            clear xo1 xb1 xg1 xg2 hv
            go_wp2_with (at_builtin; go_must (refine wpList_append_sep rfl _ _ _ rfl 34 i0 _ 2 16 Try.underlying22 hi0 hz0 hz1 hz2 rfl (by omega) S1.out 0 q m c _ rfl rfl p' 1 1 _ rfl HRA.out (one_encE _) (by omega) (by omega) ?_; intro q' c' w' S' hsz; have x1 := (S'.blk 1 rfl).cell 1; have xf := (S'.blk 1 rfl).frozen 1; skip; have S2 := Lib.hid S'; clear S'))
            go_roundw
            case rel => exact ⟨k - 1, q', m + 1, c', by omega, by rw [show ((k - 1 : Nat) : Int) = (k : Int) - 1 from by omega], by rw [hst.out, encE_append]; exact S2.out.set 1 rfl 1 _⟩
            case measure => simp [intOf]; omega
        · have hk00 : k = 0 := by omega
          subst hk00
          by_cases hin : 0 ≤ pt ∧ pt < ne
          · have f0 : decide (0 ≤ pt) = true := by simpa using hin.1
            have f9 : decide (pt < (ne : Int)) = true := by simpa using hin.2
            have f1 : 0 ≤ pt := hin.1
            have f2 : pt < ne := hin.2
            have hkn : pt.toNat < ne := by omega
            clear hin
            have g1 := SH.out.ext.cell (HE.out.cE hkn)
            have g2 := SH.out.ext.cell (HE.out.cE2 hkn)
            have xo1 := fun x : ExtOf wr => x.ext.cell o1
            have xb1 := fun x : ExtOf wr => x.ext.cell b1
            have xg1 := fun x : ExtOf wr => x.ext.cell g1
            have xg2 := fun x : ExtOf wr => x.ext.cell g2
            go_wp2
            refine wp_region_mix [true, true, true, true, true, true, true, false] (fun _ v W => ∃ p, v = .slice p 1 1 ∧ Rd W 2 p 1 (encE [nth E pt.toNat])) (by kernel_rfl) (by kernel_rfl) (by kernel_rfl) (fun _ _ _ _ hE ⟨p, h1, h2⟩ => ⟨p, h1, h2.ext hE⟩) ?_
            simp only [nfM]
            repeat (go_big_quiet_step ((fail)))
            refine wpQuiet_nil ⟨⟨fun vs W1 hE hd => ?_, trivial⟩, fun vs W1 hE hkn => ?_⟩
            · simp [putM, execOp, go_sem]
              exact ⟨Rd.one2 _ _ _ _, Ext.alloc (Below.refl _ _) _⟩
            · obtain ⟨⟨p', hv, RA⟩, _⟩ := hkn
              have HRA := Lib.hid RA; clear RA
              have S1 := Lib.hid (SH.out.call hE)
              simp only [putM, hv, List.length_cons, List.length_nil, Nat.zero_add, Nat.reduceAdd, List.drop_succ_cons, List.drop_zero]
              clear xo1 xb1 xg1 xg2 hv o0 o1 o2
              clear b0 b1 b2
              go_wp2_with (at_builtin; go_must (refine wpList_append_sep rfl _ _ _ rfl 34 i0 _ 2 16 Try.underlying22 hi0 hz0 hz1 hz2 rfl (by omega) S1.out 0 q m c _ rfl rfl p' 1 1 _ rfl HRA.out (one_encE _) (by omega) (by omega) ?_; intro q' c' w' S' hsz; have x1 := (S'.blk 1 rfl).cell 1; have xf := (S'.blk 1 rfl).frozen 1; have x0 := (S'.blk 1 rfl).cell 0; have x2 := (S'.blk 1 rfl).cell 2; have y0 := (S'.blk 2 rfl).cell 0; have y1 := (S'.blk 2 rfl).cell 1; have y2 := (S'.blk 2 rfl).cell 2; have S2 := Lib.hid S'; clear S'))
              have S3 : Hid (Sep w (w'.setCell ⟨w1.heap.size, 1, none⟩ (.slice q' (m + 1) c')) [.own 34 2 q' (m + 1) c' (encE (backE E 0 ++ [nth E pt.toNat])), .blk w1.heap.size 25 #[.int .i64 N, .slice q' (m + 1) c', .slice pw nw cw], .blk w.heap.size 25 #[.int .i64 N, .slice pe ne ce, .slice pw nw cw]]) := by unfold Hid; rw [encE_append]; exact S2.out.set 1 rfl 1 (.slice q' (m + 1) c')
              have hmem : Hid (∀ x, x ∈ backE E 0 ++ [nth E pt.toNat] ↔ x ∈ E) := fun x => by
                rw [List.mem_append, back_mem, List.mem_singleton]
                exact ⟨fun h => h.elim id fun h => by rw [h, nth_eq (by rw [← HL.out]; exact hkn)]; exact List.getElem_mem _, .inl⟩
              have hle : Hid ((backE E 0 ++ [nth E pt.toNat]).length ≤ 2000) := by unfold Hid; rw [List.length_append, backE_len, ← HL.out]; simp; omega
              go_wp2_with (first | (go_at_call 12; have _t := S7; go_must (have hsm := Same02 M qa D.length ca qha V.length cha D ha V M qb D.length cb qhb V.length chb D hb' V _ (RA5.out.ext (Ext.trans B56.out B7.out)) (RW5.out.ext (Ext.trans B56.out B7.out)) (RA6.out.ext B7.out) (RW6.out.ext B7.out); rw [hself] at hsm; refine hsm.mono ?_; rintro e w8 ⟨rfl, hb8⟩; have S8 := Lib.hid (S7.out.call hb8); clear hb8 hsm)) | (go_at_call 19; have _t := S6; go_must (refine (Graphs _).mono ?_; rintro e w7 ⟨rfl, hb7⟩; have B7 := Lib.hid (Ext.trans (Ext.alloc (Below.refl w6.heap.size w6) _) hb7); have SX := (S6.out.al #[.int .i64 M, .slice qb D.length cb, .slice qhb V.length chb] 25 w6.heap.size rfl).call hb7; have t0 := (SX.blk 0 rfl).cell 0; have t1 := (SX.blk 0 rfl).cell 1; have t2 := (SX.blk 0 rfl).cell 2; have s0 := (SX.blk 1 rfl).cell 0; have s1 := (SX.blk 1 rfl).cell 1; have s2 := (SX.blk 1 rfl).cell 2; have S7 := Lib.hid SX; clear hb7 SX)) | (go_at_call 10; have _t := S5; go_must (refine (HNb.out (backE E 0 ++ [nth E pt.toNat]) hle.out hmem.out _ q' (m + 1) c' (((S3).out.rd 0 rfl (by omega)).ext (Ext.trans B5.out (Ext.alloc (Below.refl _ _) _))) (Ext.trans (S3).out.ext (Ext.trans B5.out (Ext.alloc (Below.refl _ _) _)))).mono ?_; rintro e w6 ⟨vb, rfl, ⟨qb, cb, qhb, chb, hb', rfl, oe2, ow2⟩, hb6⟩; have RA6 := Lib.hid (Rd.of_own oe2 (by omega)); have RW6 := Lib.hid (ow2.rd (by omega) (fun l hl => Nat.le_trans (LV2.out l hl) (by omega))); have S6 := Lib.hid (((S5.out).al #[.int .i64 M, .slice qa D.length ca, .slice qha V.length cha] 25 w5.heap.size rfl).call hb6); have B56 := Lib.hid (Ext.trans (Ext.alloc (Below.refl w5.heap.size w5) _) hb6); clear oe2 ow2 hb6)) | (go_at_call 10; go_must (refine (HN.out _ (S3).out.ext).mono ?_; rintro e w5 ⟨va, rfl, ⟨qa, ca, qha, cha, ha, rfl, oe, ow⟩, hb5⟩; have B5 := Lib.hid hb5; have RA5 := Lib.hid (Rd.of_own oe (by omega)); have RW5 := Lib.hid (ow.rd (by omega) (fun l hl => Nat.le_trans (LV2.out l hl) (by omega))); have SY := (S3).out.call hb5; have u0 := (SY.blk 1 rfl).cell 0; have u1 := (SY.blk 1 rfl).cell 1; have u2 := (SY.blk 1 rfl).cell 2; have u3 := (SY.blk 1 rfl).lt; have S5 := Lib.hid SY; clear oe ow hb5 SY)))
              go_ret
              exact ⟨rfl, S8.out.ext⟩
          · have g0 : (decide (0 ≤ pt) && decide (pt < (ne : Int))) = false := by simp; omega
            have hmem : Hid (∀ x, x ∈ backE E 0 ↔ x ∈ E) := back_mem E
            have hle : Hid ((backE E 0).length ≤ 2000) := by unfold Hid; rw [backE_len, ← HL.out]; omega
            by_cases hp : 0 ≤ pt
            · have g1 : decide (0 ≤ pt) = true := by simpa using hp
              have g2 : decide (pt < (ne : Int)) = false := by simp; omega
              go_wp2_with (first | (go_at_call 12; have _t := S7; go_must (have hsm := Same02 M qa D.length ca qha V.length cha D ha V M qb D.length cb qhb V.length chb D hb' V _ (RA5.out.ext (Ext.trans B56.out B7.out)) (RW5.out.ext (Ext.trans B56.out B7.out)) (RA6.out.ext B7.out) (RW6.out.ext B7.out); rw [hself] at hsm; refine hsm.mono ?_; rintro e w8 ⟨rfl, hb8⟩; have S8 := Lib.hid (S7.out.call hb8); clear hb8 hsm)) | (go_at_call 19; have _t := S6; go_must (refine (Graphs _).mono ?_; rintro e w7 ⟨rfl, hb7⟩; have B7 := Lib.hid (Ext.trans (Ext.alloc (Below.refl w6.heap.size w6) _) hb7); have SX := (S6.out.al #[.int .i64 M, .slice qb D.length cb, .slice qhb V.length chb] 25 w6.heap.size rfl).call hb7; have t0 := (SX.blk 0 rfl).cell 0; have t1 := (SX.blk 0 rfl).cell 1; have t2 := (SX.blk 0 rfl).cell 2; have s0 := (SX.blk 1 rfl).cell 0; have s1 := (SX.blk 1 rfl).cell 1; have s2 := (SX.blk 1 rfl).cell 2; have S7 := Lib.hid SX; clear hb7 SX)) | (go_at_call 10; have _t := S5; go_must (refine (HNb.out (backE E 0) hle.out hmem.out _ q m c (((SH).out.rd 0 rfl (by omega)).ext (Ext.trans B5.out (Ext.alloc (Below.refl _ _) _))) (Ext.trans (SH).out.ext (Ext.trans B5.out (Ext.alloc (Below.refl _ _) _)))).mono ?_; rintro e w6 ⟨vb, rfl, ⟨qb, cb, qhb, chb, hb', rfl, oe2, ow2⟩, hb6⟩; have RA6 := Lib.hid (Rd.of_own oe2 (by omega)); have RW6 := Lib.hid (ow2.rd (by omega) (fun l hl => Nat.le_trans (LV2.out l hl) (by omega))); have S6 := Lib.hid (((S5.out).al #[.int .i64 M, .slice qa D.length ca, .slice qha V.length cha] 25 w5.heap.size rfl).call hb6); have B56 := Lib.hid (Ext.trans (Ext.alloc (Below.refl w5.heap.size w5) _) hb6); clear oe2 ow2 hb6)) | (go_at_call 10; go_must (refine (HN.out _ (SH).out.ext).mono ?_; rintro e w5 ⟨va, rfl, ⟨qa, ca, qha, cha, ha, rfl, oe, ow⟩, hb5⟩; have B5 := Lib.hid hb5; have RA5 := Lib.hid (Rd.of_own oe (by omega)); have RW5 := Lib.hid (ow.rd (by omega) (fun l hl => Nat.le_trans (LV2.out l hl) (by omega))); have SY := (SH).out.call hb5; have u0 := (SY.blk 1 rfl).cell 0; have u1 := (SY.blk 1 rfl).cell 1; have u2 := (SY.blk 1 rfl).cell 2; have u3 := (SY.blk 1 rfl).lt; have S5 := Lib.hid SY; clear oe ow hb5 SY)))
              go_ret
              exact ⟨rfl, S8.out.ext⟩
            · have g1 : decide (0 ≤ pt) = false := by simpa using hp
              go_wp2_with (first | (go_at_call 12; have _t := S7; go_must (have hsm := Same02 M qa D.length ca qha V.length cha D ha V M qb D.length cb qhb V.length chb D hb' V _ (RA5.out.ext (Ext.trans B56.out B7.out)) (RW5.out.ext (Ext.trans B56.out B7.out)) (RA6.out.ext B7.out) (RW6.out.ext B7.out); rw [hself] at hsm; refine hsm.mono ?_; rintro e w8 ⟨rfl, hb8⟩; have S8 := Lib.hid (S7.out.call hb8); clear hb8 hsm)) | (go_at_call 19; have _t := S6; go_must (refine (Graphs _).mono ?_; rintro e w7 ⟨rfl, hb7⟩; have B7 := Lib.hid (Ext.trans (Ext.alloc (Below.refl w6.heap.size w6) _) hb7); have SX := (S6.out.al #[.int .i64 M, .slice qb D.length cb, .slice qhb V.length chb] 25 w6.heap.size rfl).call hb7; have t0 := (SX.blk 0 rfl).cell 0; have t1 := (SX.blk 0 rfl).cell 1; have t2 := (SX.blk 0 rfl).cell 2; have s0 := (SX.blk 1 rfl).cell 0; have s1 := (SX.blk 1 rfl).cell 1; have s2 := (SX.blk 1 rfl).cell 2; have S7 := Lib.hid SX; clear hb7 SX)) | (go_at_call 10; have _t := S5; go_must (refine (HNb.out (backE E 0) hle.out hmem.out _ q m c (((SH).out.rd 0 rfl (by omega)).ext (Ext.trans B5.out (Ext.alloc (Below.refl _ _) _))) (Ext.trans (SH).out.ext (Ext.trans B5.out (Ext.alloc (Below.refl _ _) _)))).mono ?_; rintro e w6 ⟨vb, rfl, ⟨qb, cb, qhb, chb, hb', rfl, oe2, ow2⟩, hb6⟩; have RA6 := Lib.hid (Rd.of_own oe2 (by omega)); have RW6 := Lib.hid (ow2.rd (by omega) (fun l hl => Nat.le_trans (LV2.out l hl) (by omega))); have S6 := Lib.hid (((S5.out).al #[.int .i64 M, .slice qa D.length ca, .slice qha V.length cha] 25 w5.heap.size rfl).call hb6); have B56 := Lib.hid (Ext.trans (Ext.alloc (Below.refl w5.heap.size w5) _) hb6); clear oe2 ow2 hb6)) | (go_at_call 10; go_must (refine (HN.out _ (SH).out.ext).mono ?_; rintro e w5 ⟨va, rfl, ⟨qa, ca, qha, cha, ha, rfl, oe, ow⟩, hb5⟩; have B5 := Lib.hid hb5; have RA5 := Lib.hid (Rd.of_own oe (by omega)); have RW5 := Lib.hid (ow.rd (by omega) (fun l hl => Nat.le_trans (LV2.out l hl) (by omega))); have SY := (SH).out.call hb5; have u0 := (SY.blk 1 rfl).cell 0; have u1 := (SY.blk 1 rfl).cell 1; have u2 := (SY.blk 1 rfl).cell 2; have u3 := (SY.blk 1 rfl).lt; have S5 := Lib.hid SY; clear oe ow hb5 SY)))
              go_ret
              exact ⟨rfl, S8.out.ext⟩
end Go.Proofs.Ytlkngeflikecgaa
