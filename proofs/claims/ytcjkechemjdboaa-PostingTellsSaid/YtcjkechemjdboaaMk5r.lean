/- The reference's Make of postings. -/
import Derived.Test.YtcjkechemjdboaaMake5
import Derived.Test.YtcjkechemjdboaaR10
import Derived.Test.YtcjkechemjdboaaR7
namespace Go.Proofs.Ytcjkechemjdboaa
open Go Go.RowKit
theorem Mk5r_no (N : Int) (pe : Option Addr) (ne ce : Nat) (pw : Option Addr) (nw cw : Nat) (E : List (Int × Int)) (hs : List Hd) (W : List (List ByteArray)) (w : World) (hE : Rd w 2 pe ne (encE E)) (hW : RdW w pw nw hs W) (hz : SzW W) (hi : isB N E W = false) :
    Calls Try.prog 16 #[.agg #[.int .i64 N, .slice pe ne ce, .slice pw nw cw]] w fun e w' => e = .returned (.tuple #[.slice none 0 0, .int .i64 20]) ∧ Ext w w' := by
  have HI := Lib.hid (fun W1 (h : Ext w W1) => Is02 N pe ne ce pw nw cw E hs W W1 (hE.ext h) (hW.ext h) hz)
  rw [hi] at HI
  have hx : Ext w (w.alloc (.cells #[.int .i64 N, .slice pe ne ce, .slice pw nw cw] 25)) := Ext.alloc (Below.refl _ _) _
  clear hE hW hz hi
  go_enter Try.func16, Try.ntmps16
  go_wp2_with (go_at_call 58; go_must (refine (HI.out _ hx).mono ?_; rintro e w1 ⟨rfl, hb⟩; have B1 := Lib.hid (Ext.trans hx hb); clear hb))
  go_ret2
  exact ⟨rfl, B1.out⟩
theorem flatW_len {W : List (List ByteArray)} (h : ∀ l ∈ W, l.length ≤ 8) : ∀ k, (W.take k).flatten.length ≤ 8 * k
  | 0 => by simp
  | k + 1 => by
    by_cases hk : k < W.length
    · have ih := flatW_len h k
      rw [take_succ_nth W k hk, List.flatten_append, List.length_append]
      have h2 := h (nth W k) (by rw [nth_eq hk]; exact List.getElem_mem _)
      have h3 : ([nth W k] : List (List ByteArray)).flatten.length = (nth W k).length := by simp
      omega
    · have ih := flatW_len h k
      rw [List.take_of_length_le (by omega)] at ih ⊢; omega
theorem flatW_step {W : List (List ByteArray)} {k : Nat} (h : k < W.length) : (W.take (k + 1)).flatten = (W.take k).flatten ++ nth W k := by
  rw [take_succ_nth W k h, List.flatten_append]; simp
set_option maxRecDepth 100000 in
set_option maxHeartbeats 2000000 in
theorem Mk5r_yes (N : Int) (pe : Option Addr) (ne ce : Nat) (pw : Option Addr) (nw cw : Nat) (E : List (Int × Int)) (hs : List Hd) (W : List (List ByteArray)) (w : World) (hE : Rd w 2 pe ne (encE E)) (hW : RdW w pw nw hs W) (hz : SzW W) (hc : isB N E W = true) :
    Calls Try.prog 16 #[.agg #[.int .i64 N, .slice pe ne ce, .slice pw nw cw]] w fun e w' => ∃ q n c hs', e = .returned (.tuple #[.slice q n c, .int .i64 0]) ∧ RdP w' q n hs' (makeP W) ∧ Ext w w' := by
  obtain ⟨i0, hi0, hz0, hz1, hz2⟩ := info_parts infP
  obtain ⟨i1, hi1, hy0, hy1, hy2⟩ := info_parts infT
  obtain ⟨i2, hi2, hx0, hx1, hx2⟩ := info_parts infJ
  obtain ⟨_, hN, hE2, hWN, _, hW8⟩ := checkB_parts (isB_check hc)
  have hW9 := rowOk_len hW8
  have hO := occK_len hW9
  have p2 := hW.row.ptr
  have l2 := hW.nW
  have n2 : nw ≤ 200 := by omega
  obtain rfl : N = (nw : Int) := by omega
  have HI := Lib.hid (fun W1 (h : Ext w W1) => Is02 nw pe ne ce pw nw cw E hs W W1 (hE.ext h) (hW.ext h) hz)
  rw [hc] at HI
  have HW := Lib.hid hW; clear hW
  have HZ := Lib.hid hz; clear hz
  have L2 := Lib.hid l2; clear l2
  have H9 := Lib.hid hW9; clear hW9
  have HO := Lib.hid hO; clear hO
  clear hW8 hE2 hN hWN hE hc
  have S0 := Lib.hid ((Sep.start w).al #[.int .i64 nw, .slice pe ne ce, .slice pw nw cw] 25 w.heap.size rfl)
  go_enter Try.func16, Try.ntmps16
  go_wp2_with (go_at_call 58; go_must (refine (HI.out _ S0.out.ext).mono ?_; rintro e w1 ⟨rfl, hb⟩; have S1 := S0.out.call hb; have c0 := (S1.blk 0 rfl).cell 2; have cz := (S1.blk 0 rfl).lt; have S2 := Lib.hid (S1.nilrow 9 1); clear S1 hb))
  go_loopw [4, 5] (fun v i wr => ∃ (k : Nat) (q : Option Addr) (c m : Nat), k ≤ nw ∧ i = .int .i64 k ∧ v = .slice q m c ∧ m = (W.take k).flatten.length ∧ Sep w wr [.own 9 1 q m c (encS (W.take k).flatten), .blk w.heap.size 25 #[.int .i64 nw, .slice pe ne ce, .slice pw nw cw]]) (fun _ i _ => nw - (intOf i).toNat)
  case atStart => exact ⟨0, none, 0, 0, Nat.zero_le _, rfl, rfl, rfl, S2.out⟩
  case round =>
    clear S2 c0 cz
    obtain ⟨k, q, c, fl, hk, rfl, rfl, hfe, S⟩ := hrel
    have hfl := flatW_len H9.out k
    rw [← hfe] at hfl
    have HFE := Lib.hid hfe; clear hfe
    have xz := (S.blk 1 rfl).lt; have x0 := (S.blk 1 rfl).cell 0; have x1 := (S.blk 1 rfl).cell 1; have x2 := (S.blk 1 rfl).cell 2
    by_cases hlt : k < nw
    · have g1 := S.ext.cell (HW.out.row.cH hlt)
      have q1 := ((HW.out.each k hlt).ext S.ext)
      have l3 := q1.nS
      have hfs := Lib.hid (flatW_step (W := W) (k := k) (by rw [← L2.out]; exact hlt))
      have n8 : (nth hs k).n ≤ 8 := by rw [l3]; exact H9.out _ (by rw [nth_eq (by rw [← L2.out]; exact hlt)]; exact List.getElem_mem _)
      have d1 : (0:Int) ≤ k := by omega
      have d2 : (k:Int) < nw := by omega
      have Q1 := Lib.hid q1; clear q1
      have L3 := Lib.hid l3; clear l3
      have SH := Lib.hid S; clear S
      go_wp2_with (at_builtin; go_must (refine wpList_append_sep rfl _ _ _ rfl 9 i1 _ 1 16 Try.underlying35 hi1 hy0 hy1 hy2 rfl (by omega) SH.out 0 q _ c _ rfl rfl _ _ _ _ rfl Q1.out (one_encS _) (by omega) (by omega) ?_; intro u' e' w4 S' hsz; have S4 := Lib.hid S'; clear S' hsz))
      go_roundw
      case rel => exact ⟨k + 1, u', e', _, by omega, by go_num, rfl, by rw [hfs.out, List.length_append, ← L3.out, ← HFE.out], by rw [hfs.out, encS_append]; exact S4.out⟩
      case measure => simp [intOf]; omega
    · obtain rfl : k = nw := by omega
      have hTk : W.take k = W := List.take_of_length_le (by rw [← L2.out]; omega)
      rw [hTk] at S HFE
      have hrd := S.rd 0 rfl (by omega)
      obtain ⟨K, hKd⟩ : ∃ K, K = putAll sLess W.flatten := ⟨_, rfl⟩
      have hKl : K.length ≤ 1600 := by rw [hKd]; have h1 := putAll_len sLess W.flatten; have h2 := HFE.out; omega
      have HT := Lib.hid (fun W1 (h : Ext wr W1) => Texts02 q _ c W.flatten W1 (hrd.ext h) (by omega))
      rw [← hKd] at HT
      have HMK : Hid (makeP W = K.map fun s => (s, plc (occK W W.length) s)) := by unfold Hid makeP; rw [hKd]
      clear hKd hrd hTk
      have hLl : (K.map fun s => (s, plc (occK W W.length) s)).length = K.length := by rw [List.length_map]
      have hLk : ∀ i, i < K.length → nth (K.map fun s => (s, plc (occK W W.length) s)) i = (nth K i, plc (occK W W.length) (nth K i)) := fun i hi => by
        rw [nth_eq (by rw [hLl]; exact hi), List.getElem_map, nth_eq hi]
      obtain ⟨L, hLd⟩ : ∃ L, L = K.map fun s => (s, plc (occK W W.length) s) := ⟨_, rfl⟩
      rw [← hLd] at hLl hLk HMK
      clear hLd
      have HLL := Lib.hid hLl; clear hLl
      have HLK := Lib.hid hLk; clear hLk
      have SH := Lib.hid S; clear S
      go_wp2_with (go_at_call 59; go_must (refine (HT.out _ (Below.refl _ _)).mono ?_; rintro e w2 ⟨qk, nk, ck, rfl, hnk, hown, hb⟩; subst hnk; have S3 := Lib.hid (((SH.out.fresh hb hown (Nat.le_refl _)).nilrow 69 2).many0 3 1); clear hb hown SH HT))
      go_loopw [7, 8, 9, 10, 11] (fun v i _ _ _ wr => ∃ (m : Nat) (q1 : Option Addr) (c1 : Nat) (F : List Hd), m ≤ K.length ∧ i = .int .i64 m ∧ v = .slice q1 m c1 ∧ F.length = (L.take m).length ∧ Sep w wr [.many 3 1 (rowsP (L.take m) F), .own 69 2 q1 m c1 (encPo (L.take m) F), .own 9 1 qk K.length ck (encS K), .own 9 1 q fl c (encS W.flatten), .blk w.heap.size 25 #[.int .i64 k, .slice pe ne ce, .slice pw k cw]]) (fun _ i _ _ _ _ => K.length - (intOf i).toNat)
      case atStart => exact ⟨0, none, 0, [], Nat.zero_le _, rfl, rfl, rfl, S3.out⟩
      case round =>
        clear S3
        obtain ⟨m, q1, c1, F, hm, rfl, rfl, hFl, S⟩ := hrel
        have HFL := Lib.hid hFl; clear hFl
        by_cases hmt : m < K.length
        · have g3 := (S.rd 2 rfl (by omega)).cS hmt
          have p4 := (S.rd 2 rfl (by omega)).ptr
          have d5 : (0:Int) ≤ m := by omega
          have d6 : (m:Int) < K.length := by omega
          obtain ⟨s, hs1⟩ : ∃ s, s = nth K m := ⟨_, rfl⟩
          rw [← hs1] at g3
          have HS1 := Lib.hid hs1; clear hs1
          have SH := Lib.hid S; clear S
          obtain ⟨wo, rfl⟩ : ∃ wo : World, wo = wr := ⟨_, rfl⟩
          have S4 := Lib.hid ((SH.out.al #[.string s, .slice none 0 0] 69 wo.heap.size rfl).nilrow 3 1)
          go_wp2
          go_loopw [10, 11] (fun i _ wr => ∃ (v : Nat) (qp : Option Addr) (np cp : Nat), v ≤ k ∧ i = .int .i64 v ∧ np = (plc (occK W v) s).length ∧ Sep w wr [.own 3 1 qp np cp (encI (plc (occK W v) s)), .blk wo.heap.size 69 #[.string s, .slice qp np cp], .many 3 1 (rowsP (L.take m) F), .own 69 2 q1 m c1 (encPo (L.take m) F), .own 9 1 qk K.length ck (encS K), .own 9 1 q fl c (encS W.flatten), .blk w.heap.size 25 #[.int .i64 k, .slice pe ne ce, .slice pw k cw]]) (fun i _ _ => k - (intOf i).toNat)
          case atStart => exact ⟨0, none, 0, 0, Nat.zero_le _, rfl, rfl, S4.out⟩
          case round =>
            clear S4 g3
            obtain ⟨v, qp, np, cp, hv, rfl, hnp, S⟩ := hrel
            have g3 := (S.rd 4 rfl (by omega)).cS hmt
            rw [← HS1.out] at g3
            have bz := (S.blk 6 rfl).lt; have b0 := (S.blk 6 rfl).cell 0; have b1 := (S.blk 6 rfl).cell 1; have b2 := (S.blk 6 rfl).cell 2
            by_cases hvt : v < k
            · have e1 : (0:Int) ≤ v := by omega
              have e2 : (v:Int) < k := by omega
              have g1 := S.ext.cell (HW.out.row.cH hvt)
              have q1 := ((HW.out.each v hvt).ext S.ext)
              have p5 := q1.ptr
              have l3 := q1.nS
              have n3 := q1.small
              have n8 : (nth hs v).n ≤ 8 := by rw [l3]; exact H9.out _ (by rw [nth_eq (by rw [← L2.out]; exact hvt)]; exact List.getElem_mem _)
              have nO := HO.out v (by rw [← L2.out]; exact hv)
              clear q1
              have L3 := Lib.hid l3; clear l3
              have NO := Lib.hid nO; clear nO
              have HNP := Lib.hid hnp; clear hnp
              have SH2 := Lib.hid S; clear S
              go_wp2
              go_loopw [11] (fun i wr => ∃ (j : Nat) (qp : Option Addr) (np cp : Nat), j ≤ (nth hs v).n ∧ i = .int .i64 j ∧ np = (plc (occK W v ++ occR v ((nth W v).take j)) s).length ∧ Sep w wr [.own 3 1 qp np cp (encI (plc (occK W v ++ occR v ((nth W v).take j)) s)), .blk wo.heap.size 69 #[.string s, .slice qp np cp], .many 3 1 (rowsP (L.take m) F), .own 69 2 q1 m c1 (encPo (L.take m) F), .own 9 1 qk K.length ck (encS K), .own 9 1 q fl c (encS W.flatten), .blk w.heap.size 25 #[.int .i64 k, .slice pe ne ce, .slice pw k cw]]) (fun i _ => (nth hs v).n - (intOf i).toNat)
              case atStart => exact ⟨0, qp, np, cp, Nat.zero_le _, rfl, by rw [HNP.out]; simp [occR], by simpa [occR] using SH2.out⟩
              case round =>
                clear SH2 HNP g1 g3 bz b0 b1 b2
                obtain ⟨j, qp, np, cp, hj, rfl, hnp, S⟩ := hrel
                have g3 := (S.rd 4 rfl (by omega)).cS hmt
                rw [← HS1.out] at g3
                have g1 := S.ext.cell (HW.out.row.cH hvt)
                have bz := (S.blk 6 rfl).lt; have b0 := (S.blk 6 rfl).cell 0; have b1 := (S.blk 6 rfl).cell 1; have b2 := (S.blk 6 rfl).cell 2
                by_cases hjt : j < (nth hs v).n
                · have g5 := ((HW.out.each v hvt).ext S.ext).cS hjt
                  have e3 : (0:Int) ≤ j := by omega
                  have e4 : (j:Int) < (nth hs v).n := by omega
                  have y1 := (S.blk 1 rfl).cell 1
                  have yf := (S.blk 1 rfl).frozen 1
                  have yz := (S.blk 1 rfl).lt
                  have HT := Lib.hid (occR_take v (nth W v) j (by rw [← L3.out]; exact hjt))
                  obtain ⟨t, htd⟩ : ∃ t, t = nth (nth W v) j := ⟨_, rfl⟩
                  rw [← htd] at g5 HT
                  clear htd
                  have hps := Lib.hid (plc_snoc (occK W v ++ occR v ((nth W v).take j)) v t s)
                  have hol : np ≤ 1608 := by
                    have h1 := NO.out
                    have h2 := plc_len (occK W v ++ occR v ((nth W v).take j)) s
                    rw [List.length_append, occR_len, List.length_take] at h2; omega
                  have HNP := Lib.hid hnp; clear hnp
                  have SH3 := Lib.hid S; clear S
                  have hb0 := Lib.hid (str_beq t s)
                  by_cases he : t = s
                  · have hq2 : (t.toList == s.toList) = true := by rw [hb0.out]; simp [he]
                    have HS := Lib.hid he; clear he
                    go_wp2
                    go_quiet (fail)
                    go_wp2_with (at_builtin; go_must (refine wpList_append_sep rfl _ _ _ rfl 3 i2 _ 1 8 Try.underlying38 hi2 hx0 hx1 hx2 rfl (by omega) ((SH3.out.drewN _).junk _) 0 qp np cp _ rfl rfl _ 1 1 _ rfl (Rd.new _ _ _ 1 1 rfl (by omega)) (one_int _) (by omega) (by omega) ?_; intro u' e' w4 S' hsz; have y1 := (S'.blk 1 rfl).cell 1; have yf := (S'.blk 1 rfl).frozen 1; have yz := (S'.blk 1 rfl).lt; have S5 := Lib.hid S'; clear S' hsz))
                    go_roundw
                    case rel => exact ⟨j + 1, u', np + 1, e', by omega, by go_num, by rw [HT.out, ← List.append_assoc, hps.out, if_pos HS.out, List.length_append, ← HNP.out]; rfl, by rw [HT.out, ← List.append_assoc, hps.out, if_pos HS.out, encI_append]; exact S5.out.set 1 rfl 1 (.slice u' (np + 1) e')⟩
                    case measure => simp [intOf]; omega
                  · have hq2 : (t.toList == s.toList) = false := by rw [hb0.out]; simp [he]
                    have HE := Lib.hid he; clear he
                    go_wp2
                    go_quiet (fail)
                    go_wp2
                    go_roundw
                    case rel => exact ⟨j + 1, qp, np, cp, by omega, by go_num, by rw [HT.out, ← List.append_assoc, hps.out, if_neg HE.out]; exact HNP.out, by rw [HT.out, ← List.append_assoc, hps.out, if_neg HE.out]; exact SH3.out.drewN _⟩
                    case measure => simp [intOf]; omega
                · obtain rfl : j = (nth hs v).n := by omega
                  have HT : Hid ((nth W v).take (nth hs v).n = nth W v) := by unfold Hid; rw [List.take_of_length_le (by rw [← L3.out]; omega)]
                  rw [HT.out, ← occK_step] at S hnp
                  have HNP := Lib.hid hnp; clear hnp
                  have SH3 := Lib.hid S; clear S
                  go_wp2
                  go_roundw
                  case rel => exact ⟨v + 1, qp, np, cp, by omega, by go_num, HNP.out, SH3.out⟩
                  case measure => simp [intOf]; omega
            · obtain rfl : v = k := by omega
              have y0 := (S.blk 1 rfl).cell 0
              have y1 := (S.blk 1 rfl).cell 1
              have hL := HLK.out m hmt
              have hT1 := take_succ_nth L m (by rw [HLL.out]; exact hmt)
              rw [hL, ← HS1.out] at hT1
              have hkW : occK W v = occK W W.length := by rw [← L2.out]
              rw [← hkW] at hT1
              clear hL hkW
              have HT1 := Lib.hid hT1; clear hT1
              have HNP := Lib.hid hnp; clear hnp
              have SH3 := Lib.hid S; clear S
              go_wp2_with (at_builtin; go_must (refine wpList_append_sep rfl _ _ _ rfl 69 i0 _ 2 40 Try.underlying28 hi0 hz0 hz1 hz2 rfl (by omega) (SH3.out.junk _) 3 q1 m c1 _ rfl rfl _ 1 1 _ rfl (Rd.new _ _ _ 1 2 rfl (by omega)) (one_P _ _ _ _) (by omega) (by omega) ?_; intro u' e' w4 S' hsz; have S5 := Lib.hid ((S'.pick [0, 2, 3, 4, 5, 6] (by decide) rfl : Sep w w4 [_, _, _, _, _, _]).gather); clear S' hsz))
              go_roundw
              case rel => exact ⟨m + 1, u', e', F ++ [⟨qp, np, cp⟩], by omega, by go_num, rfl, by rw [HT1.out, List.length_append, List.length_append, HFL.out]; rfl, by rw [HT1.out, rowsP_snoc _ _ _ _ HFL.out, encPo_snoc _ _ _ _ HFL.out]; exact S5.out⟩
              case measure => simp [intOf]; omega
        · obtain rfl : m = K.length := by omega
          have hT1 : L.take K.length = L := List.take_of_length_le (by rw [HLL.out]; omega)
          rw [hT1] at S HFL
          have HR := Lib.hid (RdP.of_sep S 0 1 rfl rfl HFL.out)
          have SH := Lib.hid S; clear S
          clear hT1
          go_wp2
          go_ret2
          exact ⟨q1, K.length, c1, F, rfl, by rw [HMK.out]; exact HR.out, SH.out.ext⟩
theorem Mk5r (N : Int) (pe : Option Addr) (ne ce : Nat) (pw : Option Addr) (nw cw : Nat) (E : List (Int × Int)) (hs : List Hd) (W : List (List ByteArray)) (w : World) (hE : Rd w 2 pe ne (encE E)) (hW : RdW w pw nw hs W) (hz : SzW W) :
    Calls Try.prog 16 #[.agg #[.int .i64 N, .slice pe ne ce, .slice pw nw cw]] w fun e w' => (isB N E W = false ∧ e = .returned (.tuple #[.slice none 0 0, .int .i64 20]) ∨ isB N E W = true ∧ ∃ q n c hs', e = .returned (.tuple #[.slice q n c, .int .i64 0]) ∧ RdP w' q n hs' (makeP W)) ∧ Ext w w' := by
  by_cases hc : isB N E W = true
  · exact (Mk5r_yes N pe ne ce pw nw cw E hs W w hE hW hz hc).mono fun e w' ⟨q, n, c, hs', h1, h2, h3⟩ => ⟨.inr ⟨hc, q, n, c, hs', h1, h2⟩, h3⟩
  · have hc' : isB N E W = false := by simpa using hc
    exact (Mk5r_no N pe ne ce pw nw cw E hs W w hE hW hz hc').mono fun e w' ⟨h1, h2⟩ => ⟨.inl ⟨hc', h1⟩, h2⟩
end Go.Proofs.Ytcjkechemjdboaa
