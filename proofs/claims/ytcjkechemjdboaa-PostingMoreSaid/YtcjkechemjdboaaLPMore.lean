/- The law PostingMore: more words leave no more places in All, no fewer in Any; each of All is one of Any. -/
import Derived.Test.YtcjkechemjdboaaEx5
import Derived.Test.YtcjkechemjdboaaPlainP
namespace Go.Proofs.Ytcjkechemjdboaa
open Go Go.RowKit
set_option maxRecDepth 100000 in
set_option maxHeartbeats 4000000 in
theorem lawPMore (pp : Option Addr) (np cp : Nat) (hs : List Hd) (L : List Po) (pt : Option Addr) (nt ct : Nat) (ws : List ByteArray) (s : ByteArray) (w : World) (hL : RdP w pp np hs L) (hI : ∀ q ∈ L, ∀ x ∈ q.2, I64 x) (ht : Rd w 1 pt nt (encS ws)) (hct : nt ≤ ct) : Calls Try.prog 5 #[.slice pp np cp, .slice pt nt ct, .string s] w fun e w' => e = .returned (.bool true) ∧ Ext w w' := by
  obtain ⟨i0, hi0, hz0, hz1, hz2⟩ := info_parts inf9
  have HBig := Lib.hid (Big05 pp np cp hs L w hL)
  have HFew := Lib.hid (fun W1 (h : Ext w W1) => fewG pt nt ct ws W1 (ht.ext h))
  have p1 := ht.ptr
  have n1 := ht.small
  by_cases hbig : bigP L = true
  · rw [hbig] at HBig
    clear hL hI ht HFew hbig
    go_enter Try.func5, Try.ntmps5
    go_wp2_with (first | (go_at_call 17; go_must (refine (Posted _).mono ?_; rintro e wz ⟨rfl, hb⟩; have EZ := Lib.hid (Ext.trans E1.out hb); clear hb)) | (go_at_call 20; go_must (refine HBig.out.mono ?_; rintro e w1 ⟨rfl, hb1⟩; have E1 := Lib.hid hb1; clear hb1)))
    go_ret
    exact ⟨rfl, EZ.out⟩
  · have hbig' : bigP L = false := by simpa using hbig
    by_cases hfew : fewB ws = true
    · rw [hbig'] at HBig
      rw [hfew] at HFew
      by_cases h0 : 0 < nt
      · have d0 : ((nt : Int) == 0) = false := by simp; omega
        by_cases hsz : 60 < s.size
        · have d1 : decide ((60:Int) < s.size) = true := by simp; omega
          clear hL hI ht hbig hbig' hfew
          go_enter Try.func5, Try.ntmps5
          go_wp2_with (first | (go_at_call 17; go_must (refine (Posted _).mono ?_; rintro e wz ⟨rfl, hb⟩; have EZ := Lib.hid (Ext.trans E2.out hb); clear hb)) | (go_at_call 21; go_must (refine (HFew.out _ E1.out).mono ?_; rintro e w2 ⟨rfl, hb2⟩; have E2 := Lib.hid (Ext.trans E1.out hb2); clear hb2)) | (go_at_call 20; go_must (refine HBig.out.mono ?_; rintro e w1 ⟨rfl, hb1⟩; have E1 := Lib.hid hb1; clear hb1)))
          go_ret
          exact ⟨rfl, EZ.out⟩
        · have d1 : decide ((60:Int) < s.size) = false := by simp; omega
          have l1 := ht.nS
          have hok := poOk_of hbig' hI
          have hn := (few_facts hfew).1
          have hlen : 0 < ws.length := by omega
          have hnt : nt ≤ 12 := by omega
          have hO := Lib.hid (fun W1 (h : Ext w W1) => OwnTexts01 pt nt ct ws W1 (ht.ext h) (by omega))
          have hA := Lib.hid (fun W1 (h : Ext w W1) => AllG pp np cp hs L pt nt ct ws W1 (hL.ext h) hok (ht.ext h) hct h0 (by omega))
          have hU := Lib.hid (fun W1 (h : Ext w W1) => AnyG pp np cp hs L pt nt ct ws W1 (hL.ext h) hok (ht.ext h) hct h0 (by omega))
          have hA2 := Lib.hid (fun q c W1 (h : Ext w W1) (hr : Rd W1 1 q (nt + 1) (encS (ws ++ [s]))) (hc : nt + 1 ≤ c) => AllG pp np cp hs L q (nt + 1) c (ws ++ [s]) W1 (hL.ext h) hok hr hc (by omega) (by omega))
          have hU2 := Lib.hid (fun q c W1 (h : Ext w W1) (hr : Rd W1 1 q (nt + 1) (encS (ws ++ [s]))) (hc : nt + 1 ≤ c) => AnyG pp np cp hs L q (nt + 1) c (ws ++ [s]) W1 (hL.ext h) hok hr hc (by omega) (by omega))
          have a1 := allS_len hok ws
          have a2 := anyS_len hok ws
          have a3 := allS_len hok (ws ++ [s])
          have a4 := anyS_len hok (ws ++ [s])
          have HBA := Lib.hid (fun x (hx : x ∈ allS L (ws ++ [s])) => more_all hlen hx)
          have HUD := Lib.hid (fun x (hx : x ∈ anyS L ws) => more_any (u := s) hx)
          have HAU := Lib.hid (fun x (hx : x ∈ allS L ws) => all_any hlen hx)
          rw [List.length_append, List.length_singleton] at a4
          have tr : ∀ (x : Int) (l : List Int) W1 (p : Option Addr) (n c : Nat), Rd W1 1 p n (encI l) → x ∈ l → Calls Try.prog 26 #[.slice p n c, .int .i64 x] W1 fun e w' => e = .returned (.bool true) ∧ W1 = w' := fun x l W1 p n c h hb => by
            have := In05 p n c l x W1 h
            rwa [inB_true hb] at this
          generalize allS L ws = A at *
          generalize anyS L ws = U at *
          generalize allS L (ws ++ [s]) = B at *
          generalize anyS L (ws ++ [s]) = D at *
          have HTR := Lib.hid tr
          clear hL hI hok hbig hbig' hfew ht l1 tr
          go_enter Try.func5, Try.ntmps5
          go_wp2_with (first
            | (go_at_call 23; have _t := S6; go_must (refine (hU2.out _ _ _ S6.out.ext (RB.out _ _ _ (S6.out.pick [3] (by decide) rfl)).1 (RB.out _ _ _ (S6.out.pick [3] (by decide) rfl)).2).mono ?_; rintro e w7 ⟨q7, c7, rfl, T⟩; have S7 := Lib.hid (S6.out.comp T); clear T))
            | (go_at_call 23; go_must (refine (hU.out _ S5.out.ext).mono ?_; rintro e w6 ⟨q6, c6, rfl, T⟩; have S6 := Lib.hid (S5.out.comp T); clear T))
            | (go_at_call 22; have _t := S4; go_must (refine (hA2.out _ _ _ S4.out.ext (RB.out _ _ _ (S4.out.pick [1] (by decide) rfl)).1 (RB.out _ _ _ (S4.out.pick [1] (by decide) rfl)).2).mono ?_; rintro e w5 ⟨q5, c5, rfl, T⟩; have S5 := Lib.hid (S4.out.comp T); clear T))
            | (go_at_call 22; go_must (refine (hA.out _ S3.out.ext).mono ?_; rintro e w4 ⟨q4, c4, rfl, T⟩; have S4 := Lib.hid (S3.out.comp T); clear T))
            | (at_builtin; have _t := SH; go_must (refine wpList_append_sep rfl _ _ _ rfl 9 i0 _ 1 16 Try.underlying35 hi0 hz0 hz1 hz2 rfl (by omega) (SH.out.junk _) 0 q _ c _ rfl rfl _ 1 1 _ rfl (Rd.oneS _ _ _) (one_encS _) (by omega) (by omega) ?_; intro u' e' w3 S' hsz; have S3 := Lib.hid S'; have RB : Hid (∀ w4 q1 c1, Sep w w4 [.own 9 1 q1 (nt + 1) c1 (encS ws ++ encS [s])] → Rd w4 1 q1 (nt + 1) (encS (ws ++ [s])) ∧ nt + 1 ≤ c1) := (fun w4 q1 c1 h => by rw [encS_append]; exact ⟨h.rd 0 rfl (by omega), own_cap (h.own 0 rfl)⟩); clear S' hsz))
            | (go_at_call 25; go_must (refine (hO.out _ E2.out).mono ?_; rintro e wo ⟨q, c, rfl, T, hb⟩; have SH := Lib.hid (((Sep.start w).call E2.out).fresh hb T (Nat.le_refl _)); clear T hb))
            | (go_at_call 21; go_must (refine (HFew.out _ E1.out).mono ?_; rintro e w2 ⟨rfl, hb2⟩; have E2 := Lib.hid (Ext.trans E1.out hb2); clear hb2)) | (go_at_call 20; go_must (refine HBig.out.mono ?_; rintro e w1 ⟨rfl, hb1⟩; have E1 := Lib.hid hb1; clear hb1)))
          have RA := S7.out.rd 3 rfl (by omega)
          have RU := S7.out.rd 1 rfl (by omega)
          have RBb := S7.out.rd 2 rfl (by omega)
          have RD := S7.out.rd 0 rfl (by omega)
          have HI1 := Lib.hid (fun k (hk : k < B.length) => HTR.out (nth B k) A w7 q4 _ c4 RA (HBA.out _ (nth_mem hk)))
          have HI2 := Lib.hid (fun k (hk : k < U.length) => HTR.out (nth U k) D w7 q7 _ c7 RD (HUD.out _ (nth_mem hk)))
          have HI3 := Lib.hid (fun k (hk : k < A.length) => HTR.out (nth A k) U w7 q6 _ c6 RU (HAU.out _ (nth_mem hk)))
          have pA := RA.ptr
          have pU := RU.ptr
          have pB := RBb.ptr
          have HRA := Lib.hid RA; clear RA
          have HRU := Lib.hid RU; clear RU
          have HRB := Lib.hid RBb; clear RBb
          clear RD HTR HBA HUD HAU hA hA2 hU hU2 hO HFew HBig
          go_loop [16] (fun i => ∃ k : Nat, k ≤ B.length ∧ i = .int .i64 k) (fun i => B.length - (intOf i).toNat)
          case atStart => exact ⟨0, Nat.zero_le _, rfl⟩
          case round =>
            obtain ⟨k, hk, rfl⟩ := hrel
            by_cases hlt : k < B.length
            · have d2 : (0:Int) ≤ k := by omega
              have d3 : (k:Int) < B.length := by omega
              have e0 := HRB.out.cI hlt
              go_wp2_with (go_at_call 26; go_must (refine (HI1.out k hlt).mono ?_; rintro e wx ⟨rfl, rfl⟩))
              go_round
              case rel => exact ⟨k + 1, by omega, by go_num⟩
              case measure => simp [intOf]; omega
            · go_wp2
              go_loop [17] (fun i => ∃ k : Nat, k ≤ U.length ∧ i = .int .i64 k) (fun i => U.length - (intOf i).toNat)
              case atStart => exact ⟨0, Nat.zero_le _, rfl⟩
              case round =>
                clear hlt
                obtain ⟨k, hk, rfl⟩ := hrel
                by_cases hlt : k < U.length
                · have d2 : (0:Int) ≤ k := by omega
                  have d3 : (k:Int) < U.length := by omega
                  have e0 := HRU.out.cI hlt
                  go_wp2_with (go_at_call 26; go_must (refine (HI2.out k hlt).mono ?_; rintro e wx ⟨rfl, rfl⟩))
                  go_round
                  case rel => exact ⟨k + 1, by omega, by go_num⟩
                  case measure => simp [intOf]; omega
                · go_wp2
                  go_loop [18] (fun i => ∃ k : Nat, k ≤ A.length ∧ i = .int .i64 k) (fun i => A.length - (intOf i).toNat)
                  case atStart => exact ⟨0, Nat.zero_le _, rfl⟩
                  case round =>
                    clear hlt
                    obtain ⟨k, hk, rfl⟩ := hrel
                    by_cases hlt : k < A.length
                    · have d2 : (0:Int) ≤ k := by omega
                      have d3 : (k:Int) < A.length := by omega
                      have e0 := HRA.out.cI hlt
                      go_wp2_with (go_at_call 26; go_must (refine (HI3.out k hlt).mono ?_; rintro e wx ⟨rfl, rfl⟩))
                      go_round
                      case rel => exact ⟨k + 1, by omega, by go_num⟩
                      case measure => simp [intOf]; omega
                    · go_wp2_with (go_at_call 17; go_must (refine (Posted _).mono ?_; rintro e wz ⟨rfl, hb⟩; have EZ := Lib.hid (Ext.trans S7.out.ext hb); clear hb))
                      go_ret
                      exact ⟨rfl, EZ.out⟩
      · obtain rfl : nt = 0 := by omega
        clear hL hI ht hbig hbig' hfew
        go_enter Try.func5, Try.ntmps5
        go_wp2_with (first | (go_at_call 17; go_must (refine (Posted _).mono ?_; rintro e wz ⟨rfl, hb⟩; have EZ := Lib.hid (Ext.trans E2.out hb); clear hb)) | (go_at_call 21; go_must (refine (HFew.out _ E1.out).mono ?_; rintro e w2 ⟨rfl, hb2⟩; have E2 := Lib.hid (Ext.trans E1.out hb2); clear hb2)) | (go_at_call 20; go_must (refine HBig.out.mono ?_; rintro e w1 ⟨rfl, hb1⟩; have E1 := Lib.hid hb1; clear hb1)))
        go_ret
        exact ⟨rfl, EZ.out⟩
    · have hfew' : fewB ws = false := by simpa using hfew
      rw [hbig'] at HBig
      rw [hfew'] at HFew
      clear hL hI ht hbig hbig' hfew hfew'
      go_enter Try.func5, Try.ntmps5
      go_wp2_with (first | (go_at_call 17; go_must (refine (Posted _).mono ?_; rintro e wz ⟨rfl, hb⟩; have EZ := Lib.hid (Ext.trans E2.out hb); clear hb)) | (go_at_call 21; go_must (refine (HFew.out _ E1.out).mono ?_; rintro e w2 ⟨rfl, hb2⟩; have E2 := Lib.hid (Ext.trans E1.out hb2); clear hb2)) | (go_at_call 20; go_must (refine HBig.out.mono ?_; rintro e w1 ⟨rfl, hb1⟩; have E1 := Lib.hid hb1; clear hb1)))
      go_ret
      exact ⟨rfl, EZ.out⟩
end Go.Proofs.Ytcjkechemjdboaa
