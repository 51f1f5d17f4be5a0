/- The law PostingOrder: the order of words plays no part, nor does one that is there twice. -/
import Derived.Test.YtcjkechemjdboaaEx5
import Derived.Test.YtcjkechemjdboaaPlainP
namespace Go.Proofs.Ytcjkechemjdboaa
open Go Go.RowKit
set_option maxRecDepth 100000 in
set_option maxHeartbeats 4000000 in
theorem lawPOrder (pp : Option Addr) (np cp : Nat) (hs : List Hd) (L : List Po) (pt : Option Addr) (nt ct : Nat) (ws : List ByteArray) (w : World) (hL : RdP w pp np hs L) (hI : ∀ q ∈ L, ∀ x ∈ q.2, I64 x) (ht : Rd w 1 pt nt (encS ws)) (hct : nt ≤ ct) : Calls Try.prog 4 #[.slice pp np cp, .slice pt nt ct] w fun e w' => e = .returned (.bool true) ∧ Ext w w' := by
  obtain ⟨i0, hi0, hz0, hz1, hz2⟩ := info_parts inf9
  have HBig := Lib.hid (Big05 pp np cp hs L w hL)
  have HFew := Lib.hid (fun W1 (h : Ext w W1) => fewG pt nt ct ws W1 (ht.ext h))
  have p1 := ht.ptr
  have n1 := ht.small
  by_cases hbig : bigP L = true
  · rw [hbig] at HBig
    clear hL hI ht HFew hbig
    go_enter Try.func4, Try.ntmps4
    go_wp2_with (first | (go_at_call 17; go_must (refine (Posted _).mono ?_; rintro e wz ⟨rfl, hb⟩; have EZ := Lib.hid (Ext.trans E1.out hb); clear hb)) | (go_at_call 20; go_must (refine HBig.out.mono ?_; rintro e w1 ⟨rfl, hb1⟩; have E1 := Lib.hid hb1; clear hb1)))
    go_ret
    exact ⟨rfl, EZ.out⟩
  · have hbig' : bigP L = false := by simpa using hbig
    by_cases hfew : fewB ws = true
    · rw [hbig'] at HBig
      rw [hfew] at HFew
      by_cases h0 : 0 < nt
      · have l1 := ht.nS
        have hok := poOk_of hbig' hI
        have hn := (few_facts hfew).1
        have hlen : 0 < ws.length := by omega
        have hnt : nt ≤ 12 := by omega
        have hA := Lib.hid (fun W1 (h : Ext w W1) => AllG pp np cp hs L pt nt ct ws W1 (hL.ext h) hok (ht.ext h) hct h0 (by omega))
        have hU := Lib.hid (fun W1 (h : Ext w W1) => AnyG pp np cp hs L pt nt ct ws W1 (hL.ext h) hok (ht.ext h) hct h0 (by omega))
        have hA2 := Lib.hid (fun q c W1 (h : Ext w W1) (hr : Rd W1 1 q (nt + 1) (encS (ws.reverse ++ [nth ws 0]))) (hc : nt + 1 ≤ c) => AllG pp np cp hs L q (nt + 1) c (ws.reverse ++ [nth ws 0]) W1 (hL.ext h) hok hr hc (by omega) (by omega))
        have hU2 := Lib.hid (fun q c W1 (h : Ext w W1) (hr : Rd W1 1 q (nt + 1) (encS (ws.reverse ++ [nth ws 0]))) (hc : nt + 1 ≤ c) => AnyG pp np cp hs L q (nt + 1) c (ws.reverse ++ [nth ws 0]) W1 (hL.ext h) hok hr hc (by omega) (by omega))
        rw [← allS_same hlen (by simp) (back_mem hlen)] at hA2
        rw [← anyS_same (back_mem hlen)] at hU2
        have a1 := allS_len hok ws
        have a2 := anyS_len hok ws
        generalize allS L ws = A at *
        generalize anyS L ws = U at *
        have g0 := ht.cS h0
        have d0 : ((nt : Int) == 0) = false := by simp; omega
        have HT := Lib.hid ht; clear ht
        have L1 := Lib.hid l1; clear l1
        clear hL hI hok hbig hbig' hfew
        go_enter Try.func4, Try.ntmps4
        go_wp2_with (first | (go_at_call 21; go_must (refine (HFew.out _ E1.out).mono ?_; rintro e w2 ⟨rfl, hb2⟩; have E2 := Lib.hid (Ext.trans E1.out hb2); clear hb2)) | (go_at_call 20; go_must (refine HBig.out.mono ?_; rintro e w1 ⟨rfl, hb1⟩; have E1 := Lib.hid hb1; clear hb1)))
        go_loopw [5, 6] (fun v i wr => ∃ (k j : Nat) (q : Option Addr) (c : Nat), k + j = nt ∧ i = .int .i64 ((j : Int) - 1) ∧ v = .slice q k c ∧ Sep w wr [.own 9 1 q k c (encS (ws.reverse.take k))]) (fun _ i _ => (intOf i + 1).toNat)
        case atStart => exact ⟨0, nt, none, 0, by omega, rfl, rfl, ((Sep.start w).call E2.out).nilrow _ _⟩
        case round =>
          obtain ⟨k, j, q, c, hkj, hi, rfl, S⟩ := hrel
          rcases j with _ | j
          · obtain rfl : k = nt := by omega
            have d1 : decide ((0:Int) ≤ ((0 : Nat) : Int) - 1) = false := by decide
            subst hi
            have HR : Hid (ws.reverse.take k = ws.reverse) := by unfold Hid; rw [List.take_of_length_le (by rw [List.length_reverse, ← L1.out]; omega)]
            rw [HR.out] at S
            have SH := Lib.hid S; clear S
            have RB : Hid (∀ w4 q1 c1, Sep w w4 [.own 9 1 q1 (k + 1) c1 (encS ws.reverse ++ encS [nth ws 0])] → Rd w4 1 q1 (k + 1) (encS (ws.reverse ++ [nth ws 0])) ∧ k + 1 ≤ c1) := fun w4 q1 c1 h => by
              rw [encS_append]; exact ⟨h.rd 0 rfl (by omega), own_cap (h.own 0 rfl)⟩
            have g1 := SH.out.ext.cell g0
            go_wp2_with (first
              | (go_at_call 24; have _t := S9; go_must (refine (IntsT _ _ _ _ _ _ U _ (S9.out.rd 1 rfl (by omega)) (S9.out.rd 0 rfl (by omega))).mono ?_; rintro e w10 ⟨rfl, hb⟩; have S10 := Lib.hid (S9.out.call hb); clear hb))
              | (go_at_call 24; go_must (refine (IntsT _ _ _ _ _ _ A _ (S8.out.rd 3 rfl (by omega)) (S8.out.rd 2 rfl (by omega))).mono ?_; rintro e w9 ⟨rfl, hb⟩; have S9 := Lib.hid (S8.out.call hb); clear hb))
              | (go_at_call 17; go_must (refine (Posted _).mono ?_; rintro e w8 ⟨rfl, hb⟩; have S8 := Lib.hid (S7.out.call hb); clear hb))
              | (go_at_call 23; have _t := S6; go_must (refine (hU2.out _ _ _ S6.out.ext (RB.out _ _ _ (S6.out.pick [3] (by decide) rfl)).1 (RB.out _ _ _ (S6.out.pick [3] (by decide) rfl)).2).mono ?_; rintro e w7 ⟨q7, c7, rfl, T⟩; have S7 := Lib.hid (S6.out.comp T); clear T))
              | (go_at_call 23; go_must (refine (hU.out _ S5.out.ext).mono ?_; rintro e w6 ⟨q6, c6, rfl, T⟩; have S6 := Lib.hid (S5.out.comp T); clear T))
              | (go_at_call 22; have _t := S4; go_must (refine (hA2.out _ _ _ S4.out.ext (RB.out _ _ _ (S4.out.pick [1] (by decide) rfl)).1 (RB.out _ _ _ (S4.out.pick [1] (by decide) rfl)).2).mono ?_; rintro e w5 ⟨q5, c5, rfl, T⟩; have S5 := Lib.hid (S4.out.comp T); clear T))
              | (go_at_call 22; go_must (refine (hA.out _ S3.out.ext).mono ?_; rintro e w4 ⟨q4, c4, rfl, T⟩; have S4 := Lib.hid (S3.out.comp T); clear T))
              | (at_builtin; go_must (refine wpList_append_sep rfl _ _ _ rfl 9 i0 _ 1 16 Try.underlying35 hi0 hz0 hz1 hz2 rfl (by omega) (SH.out.junk _) 0 q _ c _ rfl rfl _ 1 1 _ rfl (Rd.oneS _ _ _) (one_encS _) (by omega) (by omega) ?_; intro u' e' w3 S' hsz; have S3 := Lib.hid S'; clear S' hsz)))
            go_ret
            exact ⟨rfl, S10.out.ext⟩
          · have e1 : ((j + 1 : Nat) : Int) - 1 = (j : Int) := by omega
            rw [e1] at hi
            subst hi
            clear e1
            have g1 := S.ext.cell (HT.out.cS (show j < nt by omega))
            have d1 : (0:Int) ≤ j := by omega
            have d2 : (j:Int) < nt := by omega
            have HR : Hid (ws.reverse.take (k + 1) = ws.reverse.take k ++ [nth ws j]) := by
              unfold Hid
              rw [take_succ_rev ws (by rw [← L1.out]; omega)]
              congr 3
              rw [← L1.out]; omega
            have SH := Lib.hid S; clear S
            go_wp2_with (at_builtin; go_must (refine wpList_append_sep rfl _ _ _ rfl 9 i0 _ 1 16 Try.underlying35 hi0 hz0 hz1 hz2 rfl (by omega) (SH.out.junk _) 0 q _ c _ rfl rfl _ 1 1 _ rfl (Rd.oneS _ _ _) (one_encS _) (by omega) (by omega) ?_; intro u' e' w2 S' hsz; have S3 := Lib.hid S'; clear S' hsz))
            go_roundw
            case rel => exact ⟨k + 1, j, u', e', by omega, by go_num, rfl, by rw [HR.out, encS_append]; exact S3.out⟩
            case measure => simp [intOf]; try omega
      · obtain rfl : nt = 0 := by omega
        clear hL hI ht hbig hbig' hfew
        go_enter Try.func4, Try.ntmps4
        go_wp2_with (first | (go_at_call 17; go_must (refine (Posted _).mono ?_; rintro e wz ⟨rfl, hb⟩; have EZ := Lib.hid (Ext.trans E2.out hb); clear hb)) | (go_at_call 21; go_must (refine (HFew.out _ E1.out).mono ?_; rintro e w2 ⟨rfl, hb2⟩; have E2 := Lib.hid (Ext.trans E1.out hb2); clear hb2)) | (go_at_call 20; go_must (refine HBig.out.mono ?_; rintro e w1 ⟨rfl, hb1⟩; have E1 := Lib.hid hb1; clear hb1)))
        go_ret
        exact ⟨rfl, EZ.out⟩
    · have hfew' : fewB ws = false := by simpa using hfew
      rw [hbig'] at HBig
      rw [hfew'] at HFew
      clear hL hI ht hbig hbig' hfew hfew'
      go_enter Try.func4, Try.ntmps4
      go_wp2_with (first | (go_at_call 17; go_must (refine (Posted _).mono ?_; rintro e wz ⟨rfl, hb⟩; have EZ := Lib.hid (Ext.trans E2.out hb); clear hb)) | (go_at_call 21; go_must (refine (HFew.out _ E1.out).mono ?_; rintro e w2 ⟨rfl, hb2⟩; have E2 := Lib.hid (Ext.trans E1.out hb2); clear hb2)) | (go_at_call 20; go_must (refine HBig.out.mono ?_; rintro e w1 ⟨rfl, hb1⟩; have E1 := Lib.hid hb1; clear hb1)))
      go_ret
      exact ⟨rfl, EZ.out⟩
end Go.Proofs.Ytcjkechemjdboaa
