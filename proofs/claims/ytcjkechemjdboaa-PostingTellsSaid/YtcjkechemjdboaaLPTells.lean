/- The law PostingTells: postings are right, or not, and tell just these places of words. -/
import Derived.Test.YtcjkechemjdboaaEx5
import Derived.Test.YtcjkechemjdboaaPlainP
import Derived.Test.YtcjkechemjdboaaChk5r
namespace Go.Proofs.Ytcjkechemjdboaa
open Go Go.RowKit
def allX (L : List Po) (ws : List ByteArray) : List Int := if ws.length = 0 then [] else allS L ws
def anyX (L : List Po) (ws : List ByteArray) : List Int := if ws.length = 0 then [] else anyS L ws
def codeX (ws : List ByteArray) : Int := if ws.length = 0 then 1 else 0
theorem codeX_0 {ws : List ByteArray} (h : ws.length = 0) : codeX ws = 1 := by unfold codeX; rw [if_pos h]
theorem codeX_1 {ws : List ByteArray} (h : 0 < ws.length) : codeX ws = 0 := by unfold codeX; rw [if_neg (by omega)]
theorem allX_0 (L : List Po) {ws : List ByteArray} (h : ws.length = 0) : allX L ws = [] := by unfold allX; rw [if_pos h]
theorem allX_1 (L : List Po) {ws : List ByteArray} (h : 0 < ws.length) : allX L ws = allS L ws := by unfold allX; rw [if_neg (by omega)]
theorem anyX_0 (L : List Po) {ws : List ByteArray} (h : ws.length = 0) : anyX L ws = [] := by unfold anyX; rw [if_pos h]
theorem anyX_1 (L : List Po) {ws : List ByteArray} (h : 0 < ws.length) : anyX L ws = anyS L ws := by unfold anyX; rw [if_neg (by omega)]
theorem allX_len {L : List Po} (hok : PoOk L) (ws : List ByteArray) : (allX L ws).length ≤ 1000 := by
  unfold allX; split
  · simp
  · exact allS_len hok ws
theorem anyX_len {L : List Po} (hok : PoOk L) (ws : List ByteArray) : (anyX L ws).length ≤ 1000 * ws.length := by
  unfold anyX; split
  · simp
  · exact anyS_len hok ws
theorem AllGx (p : Option Addr) (np cp : Nat) (hs : List Hd) (L : List Po) (pr : Option Addr) (nr cr : Nat) (ws : List ByteArray) (w : World) (hL : RdP w p np hs L) (hok : PoOk L) (hR : Rd w 1 pr nr (encS ws)) (hcr : nr ≤ cr) (hn : nr ≤ 100) : Calls Try.prog 22 #[.slice p np cp, .slice pr nr cr] w fun e w' => ∃ q c, e = .returned (.tuple #[.slice q (allX L ws).length c, .int .i64 (codeX ws)]) ∧ Sep w w' [.own 3 1 q (allX L ws).length c (encI (allX L ws))] := by
  have l1 := hR.nS
  rcases Nat.eq_zero_or_pos nr with h0 | h0
  · subst h0
    rw [codeX_0 l1.symm, allX_0 L l1.symm]
    exact (AllGn p np cp pr cr w).mono fun e w' ⟨h1, h2⟩ => ⟨none, 0, h1, ((Sep.start w).call h2).nilrow _ _⟩
  · rw [codeX_1 (by omega), allX_1 L (by omega)]
    exact AllG p np cp hs L pr nr cr ws w hL hok hR hcr h0 hn
theorem AnyGx (p : Option Addr) (np cp : Nat) (hs : List Hd) (L : List Po) (pr : Option Addr) (nr cr : Nat) (ws : List ByteArray) (w : World) (hL : RdP w p np hs L) (hok : PoOk L) (hR : Rd w 1 pr nr (encS ws)) (hcr : nr ≤ cr) (hn : nr ≤ 100) : Calls Try.prog 23 #[.slice p np cp, .slice pr nr cr] w fun e w' => ∃ q c, e = .returned (.tuple #[.slice q (anyX L ws).length c, .int .i64 (codeX ws)]) ∧ Sep w w' [.own 3 1 q (anyX L ws).length c (encI (anyX L ws))] := by
  have l1 := hR.nS
  rcases Nat.eq_zero_or_pos nr with h0 | h0
  · subst h0
    rw [codeX_0 l1.symm, anyX_0 L l1.symm]
    exact (AnyGn p np cp pr cr w).mono fun e w' ⟨h1, h2⟩ => ⟨none, 0, h1, ((Sep.start w).call h2).nilrow _ _⟩
  · rw [codeX_1 (by omega), anyX_1 L (by omega)]
    exact AnyG p np cp hs L pr nr cr ws w hL hok hR hcr h0 hn
theorem All05x (p : Option Addr) (np cp : Nat) (hs : List Hd) (L : List Po) (pr : Option Addr) (nr cr : Nat) (ws : List ByteArray) (w : World) (hL : RdP w p np hs L) (hok : PoOk L) (hR : Rd w 1 pr nr (encS ws)) (hn : nr ≤ 100) : Calls Try.prog 28 #[.slice p np cp, .slice pr nr cr] w fun e w' => ∃ q c, e = .returned (.tuple #[.slice q (allX L ws).length c, .int .i64 (codeX ws)]) ∧ Sep w w' [.own 3 1 q (allX L ws).length c (encI (allX L ws))] := by
  have l1 := hR.nS
  rcases Nat.eq_zero_or_pos nr with h0 | h0
  · subst h0
    rw [codeX_0 l1.symm, allX_0 L l1.symm]
    exact (All05n p np cp pr cr w).mono fun e w' ⟨h1, h2⟩ => ⟨none, 0, h1, ((Sep.start w).call h2).nilrow _ _⟩
  · rw [codeX_1 (by omega), allX_1 L (by omega)]
    exact All05 p np cp hs L pr nr cr ws w hL hok hR h0 hn
theorem Any05x (p : Option Addr) (np cp : Nat) (hs : List Hd) (L : List Po) (pr : Option Addr) (nr cr : Nat) (ws : List ByteArray) (w : World) (hL : RdP w p np hs L) (hok : PoOk L) (hR : Rd w 1 pr nr (encS ws)) (hn : nr ≤ 100) : Calls Try.prog 29 #[.slice p np cp, .slice pr nr cr] w fun e w' => ∃ q c, e = .returned (.tuple #[.slice q (anyX L ws).length c, .int .i64 (codeX ws)]) ∧ Sep w w' [.own 3 1 q (anyX L ws).length c (encI (anyX L ws))] := by
  have l1 := hR.nS
  rcases Nat.eq_zero_or_pos nr with h0 | h0
  · subst h0
    rw [codeX_0 l1.symm, anyX_0 L l1.symm]
    exact (Any05n p np cp pr cr w).mono fun e w' ⟨h1, h2⟩ => ⟨none, 0, h1, ((Sep.start w).call h2).nilrow _ _⟩
  · rw [codeX_1 (by omega), anyX_1 L (by omega)]
    exact Any05 p np cp hs L pr nr cr ws w hL hok hR h0 hn
set_option maxRecDepth 100000 in
set_option maxHeartbeats 16000000 in
theorem lawPTells (pp : Option Addr) (np cp : Nat) (hs : List Hd) (L : List Po) (n : Int) (pt : Option Addr) (nt ct : Nat) (ws : List ByteArray) (pa : Option Addr) (na ca : Nat) (a : List Int) (pb : Option Addr) (nb cb : Nat) (b : List Int) (w : World) (hL : RdP w pp np hs L) (hI : ∀ q ∈ L, ∀ x ∈ q.2, I64 x) (ht : Rd w 1 pt nt (encS ws)) (hct : nt ≤ ct) (ha : Rd w 1 pa na (encI a)) (hb : Rd w 1 pb nb (encI b)) (hia : ∀ x ∈ a, I64 x) (hib : ∀ x ∈ b, I64 x) : Calls Try.prog 6 #[.slice pp np cp, .int .i64 n, .slice pt nt ct, .slice pa na ca, .slice pb nb cb] w fun e w' => e = .returned (.bool true) ∧ Ext w w' := by
  have HBig := Lib.hid (Big05 pp np cp hs L w hL)
  have HFew := Lib.hid (fun W1 (h : Ext w W1) => fewG pt nt ct ws W1 (ht.ext h))
  have p1 := ht.ptr
  have n1 := ht.small
  by_cases hbig : bigP L = true
  · rw [hbig] at HBig
    clear hL hI ht HFew hbig ha hb hia hib
    go_enter Try.func6, Try.ntmps6
    go_wp2_with (go_at_call 20; go_must (refine HBig.out.mono ?_; rintro e w1 ⟨rfl, hb1⟩; have E1 := Lib.hid hb1; clear hb1))
    go_ret
    exact ⟨rfl, E1.out⟩
  · have hbig' : bigP L = false := by simpa using hbig
    rw [hbig'] at HBig
    by_cases hfew : fewB ws = true
    · rw [hfew] at HFew
      by_cases hna : 60 < na
      · have d0 : decide ((60:Int) < na) = true := by simp; omega
        clear hL hI ht hbig hbig' hfew ha hb hia hib
        go_enter Try.func6, Try.ntmps6
        go_wp2_with (first | (go_at_call 21; go_must (refine (HFew.out _ E1.out).mono ?_; rintro e w2 ⟨rfl, hb2⟩; have E2 := Lib.hid (Ext.trans E1.out hb2); clear hb2)) | (go_at_call 20; go_must (refine HBig.out.mono ?_; rintro e w1 ⟨rfl, hb1⟩; have E1 := Lib.hid hb1; clear hb1)))
        go_ret
        exact ⟨rfl, E2.out⟩
      · have d0 : decide ((60:Int) < na) = false := by simp; omega
        by_cases hnb : 60 < nb
        · have d0b : decide ((60:Int) < nb) = true := by simp; omega
          clear hL hI ht hbig hbig' hfew ha hb hia hib
          go_enter Try.func6, Try.ntmps6
          go_wp2_with (first | (go_at_call 21; go_must (refine (HFew.out _ E1.out).mono ?_; rintro e w2 ⟨rfl, hb2⟩; have E2 := Lib.hid (Ext.trans E1.out hb2); clear hb2)) | (go_at_call 20; go_must (refine HBig.out.mono ?_; rintro e w1 ⟨rfl, hb1⟩; have E1 := Lib.hid hb1; clear hb1)))
          go_ret
          exact ⟨rfl, E2.out⟩
        · have d0b : decide ((60:Int) < nb) = false := by simp; omega
          have HOK := Lib.hid (poOk_of hbig' hI)
          have HSZ := Lib.hid (poSz_of hbig')
          have hn := (few_facts hfew).1
          have hl40 := (bigP_facts hbig').1
          rw [← hL.hn] at hl40
          have l1 := ht.nS
          have hnt : nt ≤ 12 := by omega
          have m1 := allX_len HOK.out ws
          have m2 := anyX_len HOK.out ws
          have m3 := bothS_len a b
          rw [← ha.nI] at m3
          rw [← l1] at m2
          clear l1
          have HL := Lib.hid hL; clear hL
          have HRA := Lib.hid ha; clear ha
          have HRB := Lib.hid hb; clear hb
          have HIA := Lib.hid hia; clear hia
          have HIB := Lib.hid hib; clear hib
          by_cases h0 : nt = 0
          · subst h0
            have m4 := (findL_ok HOK.out (⟨#[]⟩ : ByteArray)).1
            have HT := Lib.hid ht; clear ht
            clear hI hbig hbig' hfew
            go_enter Try.func6, Try.ntmps6
            go_wp2_with (first
              | (go_at_call 24; have _t := S16; go_must (refine (IntsT _ _ _ _ _ _ (bothS a b) _ (S16.out.rd 1 rfl (by omega)) (S16.out.rd 0 rfl (by omega))).mono ?_; rintro e w17 ⟨rfl, hb⟩; have S17 := Lib.hid ((S16.out.call hb).pick [3, 7] (by decide) rfl); clear hb))
              | (go_at_call 35; go_must (refine (Both05 pa na ca a pb nb cb b _ (HRA.out.ext (Ext.trans E3.out S15.out.ext)) (HRB.out.ext (Ext.trans E3.out S15.out.ext)) (by omega)).mono ?_; rintro e w16 ⟨q16, c16, rfl, T⟩; have S16 := Lib.hid (S15.out.comp T); clear T))
              | (go_at_call 34; go_must (refine (BothG pa na ca a pb nb cb b _ (HRA.out.ext (Ext.trans E3.out S14.out.ext)) (HRB.out.ext (Ext.trans E3.out S14.out.ext)) HIA.out HIB.out (by omega) (by omega)).mono ?_; rintro e w15 ⟨q15, c15, rfl, T⟩; have S15 := Lib.hid (S14.out.comp T); clear T))
              | (go_at_call 33; go_must (refine (Check05 qo np co ho L n _ (KO.out.ext S13.out.ext) HSZ.out).mono ?_; rintro e w14 ⟨rfl, hb⟩; have S14 := Lib.hid (S13.out.call hb); clear hb))
              | (go_at_call 32; go_must (refine (CheckP pp np cp hs L n _ (HL.out.ext (Ext.trans E3.out S12.out.ext)) HSZ.out).mono ?_; rintro e w13 ⟨rfl, hb⟩; have S13 := Lib.hid (S12.out.call hb); clear hb))
              | (go_at_call 24; have _t := S11; go_must (refine (IntsT _ _ _ _ _ _ (findL L (⟨#[]⟩ : ByteArray)) _ (S11.out.rd 1 rfl (by omega)) (S11.out.rd 0 rfl (by omega))).mono ?_; rintro e w12 ⟨rfl, hb⟩; have S12 := Lib.hid (S11.out.call hb); clear hb))
              | (go_at_call 31; go_must (refine (Find05 qo np co ho L (⟨#[]⟩ : ByteArray) _ (KO.out.ext S10.out.ext) HOK.out).mono ?_; rintro e w11 ⟨q11, c11, rfl, T⟩; have S11 := Lib.hid (S10.out.comp T); clear T))
              | (go_at_call 24; have _t := S9; go_must (refine (IntsT _ _ _ _ _ _ (anyX L ws) _ (S9.out.rd 2 rfl (by omega)) (S9.out.rd 1 rfl (by omega))).mono ?_; rintro e w10 ⟨rfl, hb⟩; have S10 := Lib.hid (S9.out.call hb); clear hb))
              | (go_at_call 24; have _t := S8; go_must (refine (IntsT _ _ _ _ _ _ (allX L ws) _ (S8.out.rd 4 rfl (by omega)) (S8.out.rd 3 rfl (by omega))).mono ?_; rintro e w9 ⟨rfl, hb⟩; have S9 := Lib.hid (S8.out.call hb); clear hb))
              | (go_at_call 30; go_must (refine (FindG pp np cp hs L (⟨#[]⟩ : ByteArray) _ (HL.out.ext (Ext.trans E3.out S7.out.ext)) HOK.out).mono ?_; rintro e w8 ⟨q8, c8, rfl, T⟩; have S8 := Lib.hid (S7.out.comp T); clear T))
              | (go_at_call 29; go_must (refine (Any05x qo np co ho L pt 0 ct ws _ (KO.out.ext S6.out.ext) HOK.out (HT.out.ext (Ext.trans E3.out S6.out.ext)) (by omega)).mono ?_; rintro e w7 ⟨q7, c7, rfl, T⟩; have S7 := Lib.hid (S6.out.comp T); clear T))
              | (go_at_call 23; go_must (refine (AnyGx pp np cp hs L pt 0 ct ws _ (HL.out.ext (Ext.trans E3.out S5.out.ext)) HOK.out (HT.out.ext (Ext.trans E3.out S5.out.ext)) hct (by omega)).mono ?_; rintro e w6 ⟨q6, c6, rfl, T⟩; have S6 := Lib.hid (S5.out.comp T); clear T))
              | (go_at_call 28; go_must (refine (All05x qo np co ho L pt 0 ct ws _ (KO.out.ext S4.out.ext) HOK.out (HT.out.ext (Ext.trans E3.out S4.out.ext)) (by omega)).mono ?_; rintro e w5 ⟨q5, c5, rfl, T⟩; have S5 := Lib.hid (S4.out.comp T); clear T))
              | (go_at_call 22; go_must (refine (AllGx pp np cp hs L pt 0 ct ws _ (HL.out.ext E3.out) HOK.out (HT.out.ext E3.out) hct (by omega)).mono ?_; rintro e w4 ⟨q4, c4, rfl, T⟩; have S4 := Lib.hid T; clear T))
              | (go_at_call 27; go_must (refine (Own05 pp np cp hs L _ (HL.out.ext E2.out) HOK.out (by omega)).mono ?_; rintro e wo ⟨qo, co, ho, rfl, hr, hb⟩; have KO := Lib.hid hr; have E3 := Lib.hid (Ext.trans E2.out hb); clear hr hb))
              | (go_at_call 21; go_must (refine (HFew.out _ E1.out).mono ?_; rintro e w2 ⟨rfl, hb2⟩; have E2 := Lib.hid (Ext.trans E1.out hb2); clear hb2)) | (go_at_call 20; go_must (refine HBig.out.mono ?_; rintro e w1 ⟨rfl, hb1⟩; have E1 := Lib.hid hb1; clear hb1)))
            go_loopw [23] (fun i wr => ∃ (k : Nat) (xs ys : List Value), k ≤ (findL L (⟨#[]⟩ : ByteArray)).length ∧ i = .int .i64 k ∧ Sep wo wr [.own 3 1 q8 (findL L (⟨#[]⟩ : ByteArray)).length c8 xs, .own 3 1 q4 (allX L ws).length c4 ys]) (fun i _ => (findL L (⟨#[]⟩ : ByteArray)).length - (intOf i).toNat)
            case atStart => exact ⟨0, _, _, Nat.zero_le _, rfl, S17.out⟩
            case round =>
              clear S17
              obtain ⟨k, xs, ys, hk, rfl, S⟩ := hrel
              by_cases hlt : k < (findL L (⟨#[]⟩ : ByteArray)).length
              · have p2 := (S.rd 0 rfl (by omega)).ptr
                have k1 := own_frozen (S.own 0 rfl) (by omega) k
                have e1 := own_cell (S.own 0 rfl) (k := k) (by omega)
                have d1 : (0:Int) ≤ k := by omega
                have d2 : (k:Int) < (findL L (⟨#[]⟩ : ByteArray)).length := by omega
                have SH := Lib.hid S; clear S
                go_wp2
                go_roundw
                case rel => exact ⟨k + 1, _, ys, by omega, by go_num, SH.out.setRow 0 rfl k (by omega) _⟩
                case measure => simp [intOf]; omega
              · have SH := Lib.hid S; clear S
                go_wp2
                go_loopw [24] (fun i wr => ∃ (k : Nat) (xs ys : List Value), k ≤ (allX L ws).length ∧ i = .int .i64 k ∧ Sep wo wr [.own 3 1 q8 (findL L (⟨#[]⟩ : ByteArray)).length c8 xs, .own 3 1 q4 (allX L ws).length c4 ys]) (fun i _ => (allX L ws).length - (intOf i).toNat)
                case atStart => exact ⟨0, xs, ys, Nat.zero_le _, rfl, SH.out⟩
                case round =>
                  clear SH hlt
                  obtain ⟨k, xs, ys, hk, rfl, S⟩ := hrel
                  by_cases hlt : k < (allX L ws).length
                  · have p2 := (S.rd 1 rfl (by omega)).ptr
                    have k1 := own_frozen (S.own 1 rfl) (by omega) k
                    have e1 := own_cell (S.own 1 rfl) (k := k) (by omega)
                    have d1 : (0:Int) ≤ k := by omega
                    have d2 : (k:Int) < (allX L ws).length := by omega
                    have SH := Lib.hid S; clear S
                    go_wp2
                    go_roundw
                    case rel => exact ⟨k + 1, xs, _, by omega, by go_num, SH.out.setRow 1 rfl k (by omega) _⟩
                    case measure => simp [intOf]; omega
                  · have SH := Lib.hid S; clear S
                    go_wp2_with (first | (go_at_call 18; go_must (refine (Same05 pp qo np np cp co hs ho L L _ (HL.out.ext (Ext.trans E3.out S18.out.ext)) (KO.out.ext S18.out.ext)).mono ?_; rintro e w19 ⟨rfl, hb⟩; have S19 := Lib.hid (S18.out.call hb); clear hb)) | (go_at_call 17; go_must (refine (Posted _).mono ?_; rintro e w18 ⟨rfl, hb⟩; have S18 := Lib.hid (SH.out.call hb); clear hb)))
                    go_ret
                    exact ⟨rfl, Ext.trans E3.out S19.out.ext⟩
          · have d3 : decide ((0:Int) < nt) = true := by simp; omega
            have g0 := ht.cS (show 0 < nt by omega)
            have m4 := (findL_ok HOK.out (nth ws 0)).1
            have HT := Lib.hid ht; clear ht
            clear hI hbig hbig' hfew
            go_enter Try.func6, Try.ntmps6
            go_wp2_with (first
              | (go_at_call 24; have _t := S16; go_must (refine (IntsT _ _ _ _ _ _ (bothS a b) _ (S16.out.rd 1 rfl (by omega)) (S16.out.rd 0 rfl (by omega))).mono ?_; rintro e w17 ⟨rfl, hb⟩; have S17 := Lib.hid ((S16.out.call hb).pick [3, 7] (by decide) rfl); clear hb))
              | (go_at_call 35; go_must (refine (Both05 pa na ca a pb nb cb b _ (HRA.out.ext (Ext.trans E3.out S15.out.ext)) (HRB.out.ext (Ext.trans E3.out S15.out.ext)) (by omega)).mono ?_; rintro e w16 ⟨q16, c16, rfl, T⟩; have S16 := Lib.hid (S15.out.comp T); clear T))
              | (go_at_call 34; go_must (refine (BothG pa na ca a pb nb cb b _ (HRA.out.ext (Ext.trans E3.out S14.out.ext)) (HRB.out.ext (Ext.trans E3.out S14.out.ext)) HIA.out HIB.out (by omega) (by omega)).mono ?_; rintro e w15 ⟨q15, c15, rfl, T⟩; have S15 := Lib.hid (S14.out.comp T); clear T))
              | (go_at_call 33; go_must (refine (Check05 qo np co ho L n _ (KO.out.ext S13.out.ext) HSZ.out).mono ?_; rintro e w14 ⟨rfl, hb⟩; have S14 := Lib.hid (S13.out.call hb); clear hb))
              | (go_at_call 32; go_must (refine (CheckP pp np cp hs L n _ (HL.out.ext (Ext.trans E3.out S12.out.ext)) HSZ.out).mono ?_; rintro e w13 ⟨rfl, hb⟩; have S13 := Lib.hid (S12.out.call hb); clear hb))
              | (go_at_call 24; have _t := S11; go_must (refine (IntsT _ _ _ _ _ _ (findL L (nth ws 0)) _ (S11.out.rd 1 rfl (by omega)) (S11.out.rd 0 rfl (by omega))).mono ?_; rintro e w12 ⟨rfl, hb⟩; have S12 := Lib.hid (S11.out.call hb); clear hb))
              | (go_at_call 31; go_must (refine (Find05 qo np co ho L (nth ws 0) _ (KO.out.ext S10.out.ext) HOK.out).mono ?_; rintro e w11 ⟨q11, c11, rfl, T⟩; have S11 := Lib.hid (S10.out.comp T); clear T))
              | (go_at_call 24; have _t := S9; go_must (refine (IntsT _ _ _ _ _ _ (anyX L ws) _ (S9.out.rd 2 rfl (by omega)) (S9.out.rd 1 rfl (by omega))).mono ?_; rintro e w10 ⟨rfl, hb⟩; have S10 := Lib.hid (S9.out.call hb); clear hb))
              | (go_at_call 24; have _t := S8; go_must (refine (IntsT _ _ _ _ _ _ (allX L ws) _ (S8.out.rd 4 rfl (by omega)) (S8.out.rd 3 rfl (by omega))).mono ?_; rintro e w9 ⟨rfl, hb⟩; have S9 := Lib.hid (S8.out.call hb); clear hb))
              | (go_at_call 30; go_must (refine (FindG pp np cp hs L (nth ws 0) _ (HL.out.ext (Ext.trans E3.out S7.out.ext)) HOK.out).mono ?_; rintro e w8 ⟨q8, c8, rfl, T⟩; have S8 := Lib.hid (S7.out.comp T); clear T))
              | (go_at_call 29; go_must (refine (Any05x qo np co ho L pt nt ct ws _ (KO.out.ext S6.out.ext) HOK.out (HT.out.ext (Ext.trans E3.out S6.out.ext)) (by omega)).mono ?_; rintro e w7 ⟨q7, c7, rfl, T⟩; have S7 := Lib.hid (S6.out.comp T); clear T))
              | (go_at_call 23; go_must (refine (AnyGx pp np cp hs L pt nt ct ws _ (HL.out.ext (Ext.trans E3.out S5.out.ext)) HOK.out (HT.out.ext (Ext.trans E3.out S5.out.ext)) hct (by omega)).mono ?_; rintro e w6 ⟨q6, c6, rfl, T⟩; have S6 := Lib.hid (S5.out.comp T); clear T))
              | (go_at_call 28; go_must (refine (All05x qo np co ho L pt nt ct ws _ (KO.out.ext S4.out.ext) HOK.out (HT.out.ext (Ext.trans E3.out S4.out.ext)) (by omega)).mono ?_; rintro e w5 ⟨q5, c5, rfl, T⟩; have S5 := Lib.hid (S4.out.comp T); clear T))
              | (go_at_call 22; go_must (refine (AllGx pp np cp hs L pt nt ct ws _ (HL.out.ext E3.out) HOK.out (HT.out.ext E3.out) hct (by omega)).mono ?_; rintro e w4 ⟨q4, c4, rfl, T⟩; have S4 := Lib.hid T; clear T))
              | (go_at_call 27; go_must (refine (Own05 pp np cp hs L _ (HL.out.ext E2.out) HOK.out (by omega)).mono ?_; rintro e wo ⟨qo, co, ho, rfl, hr, hb⟩; have KO := Lib.hid hr; have E3 := Lib.hid (Ext.trans E2.out hb); have g1 := (Ext.trans E2.out hb).cell g0; clear hr hb))
              | (go_at_call 21; go_must (refine (HFew.out _ E1.out).mono ?_; rintro e w2 ⟨rfl, hb2⟩; have E2 := Lib.hid (Ext.trans E1.out hb2); clear hb2)) | (go_at_call 20; go_must (refine HBig.out.mono ?_; rintro e w1 ⟨rfl, hb1⟩; have E1 := Lib.hid hb1; clear hb1)))
            go_loopw [23] (fun i wr => ∃ (k : Nat) (xs ys : List Value), k ≤ (findL L (nth ws 0)).length ∧ i = .int .i64 k ∧ Sep wo wr [.own 3 1 q8 (findL L (nth ws 0)).length c8 xs, .own 3 1 q4 (allX L ws).length c4 ys]) (fun i _ => (findL L (nth ws 0)).length - (intOf i).toNat)
            case atStart => exact ⟨0, _, _, Nat.zero_le _, rfl, S17.out⟩
            case round =>
              clear S17
              obtain ⟨k, xs, ys, hk, rfl, S⟩ := hrel
              by_cases hlt : k < (findL L (nth ws 0)).length
              · have p2 := (S.rd 0 rfl (by omega)).ptr
                have k1 := own_frozen (S.own 0 rfl) (by omega) k
                have e1 := own_cell (S.own 0 rfl) (k := k) (by omega)
                have d1 : (0:Int) ≤ k := by omega
                have d2 : (k:Int) < (findL L (nth ws 0)).length := by omega
                have SH := Lib.hid S; clear S
                go_wp2
                go_roundw
                case rel => exact ⟨k + 1, _, ys, by omega, by go_num, SH.out.setRow 0 rfl k (by omega) _⟩
                case measure => simp [intOf]; omega
              · have SH := Lib.hid S; clear S
                go_wp2
                go_loopw [24] (fun i wr => ∃ (k : Nat) (xs ys : List Value), k ≤ (allX L ws).length ∧ i = .int .i64 k ∧ Sep wo wr [.own 3 1 q8 (findL L (nth ws 0)).length c8 xs, .own 3 1 q4 (allX L ws).length c4 ys]) (fun i _ => (allX L ws).length - (intOf i).toNat)
                case atStart => exact ⟨0, xs, ys, Nat.zero_le _, rfl, SH.out⟩
                case round =>
                  clear SH hlt
                  obtain ⟨k, xs, ys, hk, rfl, S⟩ := hrel
                  by_cases hlt : k < (allX L ws).length
                  · have p2 := (S.rd 1 rfl (by omega)).ptr
                    have k1 := own_frozen (S.own 1 rfl) (by omega) k
                    have e1 := own_cell (S.own 1 rfl) (k := k) (by omega)
                    have d1 : (0:Int) ≤ k := by omega
                    have d2 : (k:Int) < (allX L ws).length := by omega
                    have SH := Lib.hid S; clear S
                    go_wp2
                    go_roundw
                    case rel => exact ⟨k + 1, xs, _, by omega, by go_num, SH.out.setRow 1 rfl k (by omega) _⟩
                    case measure => simp [intOf]; omega
                  · have SH := Lib.hid S; clear S
                    go_wp2_with (first | (go_at_call 18; go_must (refine (Same05 pp qo np np cp co hs ho L L _ (HL.out.ext (Ext.trans E3.out S18.out.ext)) (KO.out.ext S18.out.ext)).mono ?_; rintro e w19 ⟨rfl, hb⟩; have S19 := Lib.hid (S18.out.call hb); clear hb)) | (go_at_call 17; go_must (refine (Posted _).mono ?_; rintro e w18 ⟨rfl, hb⟩; have S18 := Lib.hid (SH.out.call hb); clear hb)))
                    go_ret
                    exact ⟨rfl, Ext.trans E3.out S19.out.ext⟩
    · have hfew' : fewB ws = false := by simpa using hfew
      rw [hfew'] at HFew
      clear hL hI ht hbig hbig' hfew hfew' ha hb hia hib
      go_enter Try.func6, Try.ntmps6
      go_wp2_with (first | (go_at_call 21; go_must (refine (HFew.out _ E1.out).mono ?_; rintro e w2 ⟨rfl, hb2⟩; have E2 := Lib.hid (Ext.trans E1.out hb2); clear hb2)) | (go_at_call 20; go_must (refine HBig.out.mono ?_; rintro e w1 ⟨rfl, hb1⟩; have E1 := Lib.hid hb1; clear hb1)))
      go_ret
      exact ⟨rfl, E2.out⟩
end Go.Proofs.Ytcjkechemjdboaa
