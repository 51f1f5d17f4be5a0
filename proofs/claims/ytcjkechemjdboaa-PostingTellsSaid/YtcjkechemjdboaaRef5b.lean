/- The reference's All and Any; the program's, in the same words. -/
import Derived.Test.YtcjkechemjdboaaRef5
namespace Go.Proofs.Ytcjkechemjdboaa
open Go Go.RowKit Go.Maps
def allK (L : List Po) (ws : List ByteArray) (k : Nat) : List Int := putAll ltI ((findL L (nth ws 0)).filter fun x => (ws.take k).all fun u => (findL L u).contains x)
theorem allK_mem {L : List Po} {ws : List ByteArray} {k : Nat} {x : Int} : x ∈ allK L ws k ↔ (x ∈ findL L (nth ws 0) ∧ ∀ u ∈ ws.take k, x ∈ findL L u) := by
  unfold allK
  rw [putAll_mem stoI, List.mem_filter, List.all_eq_true]
  simp
theorem allK_one {L : List Po} {ws : List ByteArray} (h : 0 < ws.length) : allK L ws 1 = putAll ltI (findL L (nth ws 0)) := by
  refine rises_uniq stoI _ _ (putAll_rises stoI _) (putAll_rises stoI _) fun x => ?_
  rw [allK_mem, putAll_mem stoI, take_succ_nth ws 0 h]
  simp
theorem allK_step {L : List Po} {ws : List ByteArray} {k : Nat} (h : k < ws.length) : bothS (allK L ws k) (findL L (nth ws k)) = allK L ws (k + 1) := by
  refine rises_uniq stoI _ _ (putAll_rises stoI _) (putAll_rises stoI _) fun x => ?_
  rw [allK_mem]
  unfold bothS
  rw [putAll_mem stoI, List.mem_filter, allK_mem, inB_iff, take_succ_nth ws k h]
  constructor
  · rintro ⟨⟨h1, h2⟩, h3⟩
    refine ⟨h1, fun u hu => ?_⟩
    rcases List.mem_append.1 hu with hu | hu
    · exact h2 u hu
    · rw [List.mem_singleton] at hu; subst hu; exact h3
  · rintro ⟨h1, h2⟩
    exact ⟨⟨h1, fun u hu => h2 u (List.mem_append_left _ hu)⟩, h2 _ (by simp)⟩
theorem allK_len {L : List Po} (hok : PoOk L) (ws : List ByteArray) (k : Nat) : (allK L ws k).length ≤ 1000 := by
  unfold allK
  exact Nat.le_trans (putAll_len _ _) (Nat.le_trans (List.length_filter_le _ _) (findL_ok hok _).1)
theorem allK_end {L : List Po} {ws : List ByteArray} {k : Nat} (h : ws.length ≤ k) : allK L ws k = allS L ws := by
  unfold allK allS; rw [List.take_of_length_le h]
set_option maxHeartbeats 1000000 in
theorem All05 (p : Option Addr) (np cp : Nat) (hs : List Hd) (L : List Po) (pr : Option Addr) (nr cr : Nat) (ws : List ByteArray) (w : World) (hL : RdP w p np hs L) (hok : PoOk L) (hR : Rd w 1 pr nr (encS ws)) (h0 : 0 < nr) (hn : nr ≤ 100) :
    Calls Try.prog 28 #[.slice p np cp, .slice pr nr cr] w fun e w' => ∃ q c, e = .returned (.tuple #[.slice q (allS L ws).length c, .int .i64 0]) ∧ Sep w w' [.own 3 1 q (allS L ws).length c (encI (allS L ws))] := by
  have HF0 := Lib.hid (findL_ok hok)
  have HKL := Lib.hid (allK_len hok ws)
  have p1 := hR.ptr
  have g1 := hR.cS h0
  have L1 := Lib.hid hR.nS
  have HL := Lib.hid hL; clear hL
  have HOK := Lib.hid hok; clear hok
  have HR := Lib.hid hR; clear hR
  have hne : ((nr : Int) == 0) = false := by simp; omega
  have d2 : (0:Int) < nr := by omega
  have HK1 : Hid (putAll ltI (findL L (nth ws 0)) = allK L ws 1) := (allK_one (by rw [← L1.out]; exact h0)).symm
  have S0 := Lib.hid (Sep.start w)
  go_enter Try.func28, Try.ntmps28
  go_wp2_with (first
    | (go_at_call 67; go_must (refine (Rising05s q0 _ c0 (findL L (nth ws 0)) _ (S1.out.rd 0 rfl (by have := (HF0.out (nth ws 0)).1; omega)) (by have := (HF0.out (nth ws 0)).1; omega)).mono ?_; rintro e w2 ⟨q1, c1, rfl, T⟩; have S2 := Lib.hid (S1.out.comp T); clear T))
    | (go_at_call 31; go_must (refine (Find05 p np cp hs L (nth ws 0) _ HL.out HOK.out).mono ?_; rintro e w1 ⟨q0, c0, rfl, T⟩; have S1 := Lib.hid T; clear T)))
  rw [HK1.out]
  have S3 : Hid (Sep w w2 [.own 3 1 q1 (allK L ws 1).length c1 (encI (allK L ws 1))]) := by rw [← HK1.out]; exact S2.out.pick [0] (by decide) rfl
  clear S2 S1 HK1
  go_loopw [6, 7] (fun v i wr => ∃ (k : Nat) (u : Option Addr) (c : Nat), 1 ≤ k ∧ k ≤ nr ∧ i = .int .i64 k ∧ v = .slice u (allK L ws k).length c ∧ Sep w wr [.own 3 1 u (allK L ws k).length c (encI (allK L ws k))]) (fun _ i _ => nr - (intOf i).toNat)
  case atStart => exact ⟨1, q1, c1, Nat.le_refl _, h0, rfl, rfl, S3.out⟩
  case round =>
    clear S3
    obtain ⟨k, u, c, hk1, hk, rfl, rfl, S⟩ := hrel
    have hkl := HKL.out k
    by_cases hlt : k < nr
    · have g2 := S.ext.cell (HR.out.cS hlt)
      have HST := Lib.hid (allK_step (L := L) (ws := ws) (k := k) (by rw [← L1.out]; exact hlt))
      have SH := Lib.hid S; clear S
      have d1 : (0:Int) ≤ k := by omega
      have d3 : (k:Int) < nr := by omega
      go_wp2_with (first
        | (go_at_call 35; go_must (refine (Both05 u _ c (allK L ws k) q3 _ c3 (findL L (nth ws k)) _ (S4.out.rd 1 rfl (by omega)) (S4.out.rd 0 rfl (by have := (HF0.out (nth ws k)).1; omega)) (by omega)).mono ?_; rintro e w4 ⟨q4, c4, rfl, T⟩; have S5 := Lib.hid (S4.out.comp T); clear T))
        | (go_at_call 31; go_must (refine (Find05 p np cp hs L (nth ws k) _ (HL.out.ext SH.out.ext) HOK.out).mono ?_; rintro e w3 ⟨q3, c3, rfl, T⟩; have S4 := Lib.hid (SH.out.comp T); clear T)))
      go_roundw
      case rel => exact ⟨k + 1, q4, c4, by omega, by omega, by go_num, by rw [← HST.out], by rw [← HST.out]; exact S5.out.pick [0] (by decide) rfl⟩
      case measure => simp [intOf]; omega
    · have HE : Hid (allK L ws k = allS L ws) := allK_end (by rw [← L1.out]; omega)
      have SH := Lib.hid S; clear S
      go_wp2
      go_ret2
      rw [← HE.out]
      exact ⟨u, c, rfl, SH.out⟩
theorem flat_len {L : List Po} (hok : PoOk L) (ws : List ByteArray) : (ws.flatMap (findL L)).length ≤ 1000 * ws.length := by
  induction ws with
  | nil => simp
  | cons a ws ih => rw [List.flatMap_cons, List.length_append, List.length_cons]; have := (findL_ok hok a).1; omega
theorem flat_step {L : List Po} {ws : List ByteArray} {k : Nat} (h : k < ws.length) : (ws.take (k + 1)).flatMap (findL L) = (ws.take k).flatMap (findL L) ++ findL L (nth ws k) := by
  rw [take_succ_nth ws k h, List.flatMap_append]; simp
set_option maxHeartbeats 1000000 in
theorem Any05 (p : Option Addr) (np cp : Nat) (hs : List Hd) (L : List Po) (pr : Option Addr) (nr cr : Nat) (ws : List ByteArray) (w : World) (hL : RdP w p np hs L) (hok : PoOk L) (hR : Rd w 1 pr nr (encS ws)) (h0 : 0 < nr) (hn : nr ≤ 100) :
    Calls Try.prog 29 #[.slice p np cp, .slice pr nr cr] w fun e w' => ∃ q c, e = .returned (.tuple #[.slice q (anyS L ws).length c, .int .i64 0]) ∧ Sep w w' [.own 3 1 q (anyS L ws).length c (encI (anyS L ws))] := by
  obtain ⟨i0, hi0, hz0, hz1, hz2⟩ := info_parts infI
  have HF0 := Lib.hid (findL_ok hok)
  have HFL := Lib.hid (flat_len hok)
  have p1 := hR.ptr
  have L1 := Lib.hid hR.nS
  have HL := Lib.hid hL; clear hL
  have HOK := Lib.hid hok; clear hok
  have HR := Lib.hid hR; clear hR
  have hne : ((nr : Int) == 0) = false := by simp; omega
  have S0 := Lib.hid ((Sep.start w).nilrow 3 1)
  go_enter Try.func29, Try.ntmps29
  go_wp2
  go_loopw [6, 7, 8] (fun v i _ wr => ∃ (k : Nat) (u : Option Addr) (c : Nat), k ≤ nr ∧ i = .int .i64 k ∧ v = .slice u ((ws.take k).flatMap (findL L)).length c ∧ Sep w wr [.own 3 1 u ((ws.take k).flatMap (findL L)).length c (encI ((ws.take k).flatMap (findL L)))]) (fun _ i _ _ => nr - (intOf i).toNat)
  case atStart => exact ⟨0, none, 0, Nat.zero_le _, rfl, rfl, S0.out⟩
  case round =>
    clear S0
    obtain ⟨k, u, c, hk, rfl, rfl, S⟩ := hrel
    have hkl : ((ws.take k).flatMap (findL L)).length ≤ 1000 * 100 := by
      have := HFL.out (ws.take k); rw [List.length_take] at this; omega
    by_cases hlt : k < nr
    · have g2 := S.ext.cell (HR.out.cS hlt)
      have HST := Lib.hid (flat_step (L := L) (ws := ws) (k := k) (by rw [← L1.out]; exact hlt))
      have SH := Lib.hid S; clear S
      have d1 : (0:Int) ≤ k := by omega
      have d3 : (k:Int) < nr := by omega
      have hfk : (findL L (nth ws k)).length ≤ 1000 := (HF0.out _).1
      generalize hX : (ws.take k).flatMap (findL L) = X at *
      go_wp2_with (first
        | (go_at_call 31; go_must (refine (Find05 p np cp hs L (nth ws k) _ (HL.out.ext SH.out.ext) HOK.out).mono ?_; rintro e w3 ⟨q3, c3, rfl, T⟩; have S4 := Lib.hid (SH.out.comp T); clear T))
        | (at_builtin; go_must (refine wpList_append_sep rfl _ _ _ rfl 3 i0 _ 1 8 Try.underlying38 hi0 hz0 hz1 hz2 rfl (by omega) S4.out 1 u _ c _ rfl rfl q3 _ c3 (encI (findL L (nth ws k))) rfl (S4.out.rd 0 rfl (by omega)) (one_encI _) (by omega) (by omega) ?_; intro u' e' w4 S' hsz; have S5 := Lib.hid S'; clear S' hsz)))
      go_roundw
      case rel => exact ⟨k + 1, u', e', by omega, by go_num, by rw [HST.out, List.length_append], by rw [HST.out, List.length_append, encI_append]; exact S5.out.pick [1] (by decide) rfl⟩
      case measure => simp [intOf]; omega
    · have HT : Hid ((ws.take k).flatMap (findL L) = ws.flatMap (findL L)) := by unfold Hid; rw [List.take_of_length_le (by rw [← L1.out]; omega)]
      have HE : Hid (anyS L ws = putAll ltI ((ws.take k).flatMap (findL L))) := by unfold Hid; rw [HT.out]; rfl
      have hrd := S.rd 0 rfl (by omega)
      generalize (ws.take k).flatMap (findL L) = X at *
      have RD := Lib.hid hrd; clear hrd
      have SH := Lib.hid S; clear S
      clear HT
      go_wp2_with (go_at_call 67; go_must (refine (Rising05s u _ c X _ RD.out (by omega)).mono ?_; rintro e w2 ⟨q1, c1, rfl, T⟩; have S2 := Lib.hid (SH.out.comp T); clear T))
      go_ret2
      rw [HE.out]
      exact ⟨q1, c1, rfl, S2.out.pick [0] (by decide) rfl⟩
theorem All05n (p : Option Addr) (np cp : Nat) (pr : Option Addr) (cr : Nat) (w : World) : Calls Try.prog 28 #[.slice p np cp, .slice pr 0 cr] w fun e w' => e = .returned (.tuple #[.slice none 0 0, .int .i64 1]) ∧ Ext w w' := by
  go_enter Try.func28, Try.ntmps28
  go_wp2
  go_ret2
  exact ⟨rfl, Below.refl _ _⟩
theorem Any05n (p : Option Addr) (np cp : Nat) (pr : Option Addr) (cr : Nat) (w : World) : Calls Try.prog 29 #[.slice p np cp, .slice pr 0 cr] w fun e w' => e = .returned (.tuple #[.slice none 0 0, .int .i64 1]) ∧ Ext w w' := by
  go_enter Try.func29, Try.ntmps29
  go_wp2
  go_ret2
  exact ⟨rfl, Below.refl _ _⟩
theorem AllG (p : Option Addr) (np cp : Nat) (hs : List Hd) (L : List Po) (pr : Option Addr) (nr cr : Nat) (ws : List ByteArray) (w : World) (hL : RdP w p np hs L) (hok : PoOk L) (hR : Rd w 1 pr nr (encS ws)) (hcr : nr ≤ cr) (h0 : 0 < nr) (hn : nr ≤ 100) :
    Calls Try.prog 22 #[.slice p np cp, .slice pr nr cr] w fun e w' => ∃ q c, e = .returned (.tuple #[.slice q (allS L ws).length c, .int .i64 0]) ∧ Sep w w' [.own 3 1 q (allS L ws).length c (encI (allS L ws))] := by
  have HF := Lib.hid (foundAll p np cp hs L pr nr cr ws w hL hok hR hcr h0 hn)
  clear hL hok hR
  go_enter Try.func22, Try.ntmps22
  go_wp2_with (go_at_call 61; go_must (refine HF.out.mono ?_; rintro e w2 ⟨q1, c1, rfl, T⟩; have S2 := Lib.hid T; clear T))
  go_ret2
  exact ⟨q1, c1, rfl, S2.out⟩
theorem AnyG (p : Option Addr) (np cp : Nat) (hs : List Hd) (L : List Po) (pr : Option Addr) (nr cr : Nat) (ws : List ByteArray) (w : World) (hL : RdP w p np hs L) (hok : PoOk L) (hR : Rd w 1 pr nr (encS ws)) (hcr : nr ≤ cr) (h0 : 0 < nr) (hn : nr ≤ 100) :
    Calls Try.prog 23 #[.slice p np cp, .slice pr nr cr] w fun e w' => ∃ q c, e = .returned (.tuple #[.slice q (anyS L ws).length c, .int .i64 0]) ∧ Sep w w' [.own 3 1 q (anyS L ws).length c (encI (anyS L ws))] := by
  have HF := Lib.hid (foundAny p np cp hs L pr nr cr ws w hL hok hR hcr h0 hn)
  clear hL hok hR
  go_enter Try.func23, Try.ntmps23
  go_wp2_with (go_at_call 61; go_must (refine HF.out.mono ?_; rintro e w2 ⟨q1, c1, rfl, T⟩; have S2 := Lib.hid T; clear T))
  go_ret2
  exact ⟨q1, c1, rfl, S2.out⟩
theorem AllGn (p : Option Addr) (np cp : Nat) (pr : Option Addr) (cr : Nat) (w : World) : Calls Try.prog 22 #[.slice p np cp, .slice pr 0 cr] w fun e w' => e = .returned (.tuple #[.slice none 0 0, .int .i64 1]) ∧ Ext w w' := by
  go_enter Try.func22, Try.ntmps22
  go_wp2_with (go_at_call 61; go_must (refine (foundAll0 p np cp pr cr _).mono ?_; rintro e w2 ⟨rfl, T⟩; have S2 := Lib.hid T; clear T))
  go_ret2
  exact ⟨rfl, S2.out⟩
theorem AnyGn (p : Option Addr) (np cp : Nat) (pr : Option Addr) (cr : Nat) (w : World) : Calls Try.prog 23 #[.slice p np cp, .slice pr 0 cr] w fun e w' => e = .returned (.tuple #[.slice none 0 0, .int .i64 1]) ∧ Ext w w' := by
  go_enter Try.func23, Try.ntmps23
  go_wp2_with (go_at_call 61; go_must (refine (foundAny0 p np cp pr cr _).mono ?_; rintro e w2 ⟨rfl, T⟩; have S2 := Lib.hid T; clear T))
  go_ret2
  exact ⟨rfl, S2.out⟩
theorem BothG (p : Option Addr) (n c : Nat) (a : List Int) (q : Option Addr) (m d : Nat) (b : List Int) (w : World) (ha : Rd w 1 p n (encI a)) (hb : Rd w 1 q m (encI b)) (hia : ∀ x ∈ a, I64 x) (hib : ∀ x ∈ b, I64 x) (hn : n ≤ 100000) (hm : m ≤ 100000) :
    Calls Try.prog 34 #[.slice p n c, .slice q m d] w fun e w' => ∃ q c', e = .returned (.slice q (bothS a b).length c') ∧ Sep w w' [.own 3 1 q (bothS a b).length c' (encI (bothS a b))] := by
  obtain ⟨F, hF⟩ : ∃ F, F = a.filter (inB b) := ⟨_, rfl⟩
  have HBS : Hid (bothS a b = putAll ltI F) := by unfold Hid; rw [hF]; rfl
  have HM : Hid (∀ x, x ∈ F ↔ (x ∈ a ∧ x ∈ b)) := fun x => by rw [hF, List.mem_filter, inB_iff]
  have HA := Lib.hid (fun W1 (h : Ext w W1) => ofG p n c a W1 (ha.ext h) hia (by omega))
  have HB := Lib.hid (fun W1 (h : Ext w W1) => ofG q m d b W1 (hb.ext h) hib (by omega))
  clear ha hb hia hib hF
  go_enter Try.func34, Try.ntmps34
  go_wp2_with (first
    | (go_at_call 73; have _t := S3; go_must (refine (risingG c3 n f3 F _ (S3.out.map 0 rfl) (fun x => by rw [H3.out, H2.out, H1.out, HM.out]) (by omega)).mono ?_; rintro e w4 ⟨q4, c4, rfl, T⟩; have S4 := Lib.hid (S3.out.comp T); clear T))
    | (go_at_call 63; have _t := S2; go_must (refine (meetG b1 b2 n m f1 f2 _ (S2.out.map 1 rfl) (S2.out.map 0 rfl) (by omega)).mono ?_; rintro e w3 ⟨c3, f3, rfl, T, hh⟩; have S3 := Lib.hid (S2.out.comp T); have H3 := Lib.hid hh; clear T hh))
    | (go_at_call 72; have _t := S1; go_must (refine (HB.out _ S1.out.ext).mono ?_; rintro e w2 ⟨b2, f2, rfl, T, hh⟩; have S2 := Lib.hid (S1.out.comp T); have H2 := Lib.hid hh; clear T hh))
    | (go_at_call 72; go_must (refine (HA.out _ (Below.refl _ _)).mono ?_; rintro e w1 ⟨b1, f1, rfl, T, hh⟩; have S1 := Lib.hid T; have H1 := Lib.hid hh; clear T hh)))
  go_ret
  rw [HBS.out]
  exact ⟨q4, c4, rfl, S4.out.pick [0] (by decide) rfl⟩
end Go.Proofs.Ytcjkechemjdboaa
