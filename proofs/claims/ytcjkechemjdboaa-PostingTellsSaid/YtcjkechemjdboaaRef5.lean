/- The reference's answers of chapter 5: In, Both, All, Any; Ints. -/
import Derived.Test.YtcjkechemjdboaaFndB
namespace Go.Proofs.Ytcjkechemjdboaa
open Go Go.RowKit Go.Maps
set_option maxHeartbeats 400000 in
theorem Ints01 (p q : Option Addr) (n m c d : Nat) (ss ts : List Int) (w : World) (hs : Rd w 1 p n (encI ss)) (ht : Rd w 1 q m (encI ts)) :
    Calls Try.prog 24 #[.slice p n c, .slice q m d] w fun e w' => e = .returned (.bool (decide (ss = ts))) ∧ Ext w w' := by
  have hp := hs.ptr
  have hq := ht.ptr
  have hn := hs.small
  have hm := ht.small
  have HS := Lib.hid hs; clear hs
  have HT := Lib.hid ht; clear ht
  have L1 := Lib.hid HS.out.nI
  have L2 := Lib.hid HT.out.nI
  by_cases hnm : n = m
  · subst hnm
    have hl := Lib.hid (L1.out.symm.trans L2.out)
    go_enter Try.func24, Try.ntmps24
    go_wp2
    go_loopw [5] (fun i wr => ∃ k : Nat, k ≤ n ∧ i = .int .i64 k ∧ ss.take k = ts.take k ∧ Ext w wr) (fun i _ => n - (intOf i).toNat)
    case atStart => exact ⟨0, Nat.zero_le _, rfl, rfl, Below.refl _ _⟩
    case round =>
      obtain ⟨k, hk, rfl, he, hb⟩ := hrel
      have HE := Lib.hid he; clear he
      have HB := Lib.hid hb; clear hb
      by_cases hlt : k < n
      · have g3 := HB.out.cell (HS.out.cI hlt)
        have g4 := HB.out.cell (HT.out.cI hlt)
        have d1 : (0:Int) ≤ k := by omega
        have d2 : (k:Int) < n := by omega
        by_cases hne : nth ss k = nth ts k
        · have hb1 : (nth ss k != nth ts k) = false := by simp [hne]
          have HN := Lib.hid hne; clear hne
          go_wp2
          go_quiet (fail)
          go_wp2
          go_roundw
          case rel => exact ⟨k + 1, by omega, by go_num, eq_step hl.out (by rw [← L1.out]; exact hlt) HE.out HN.out, HB.out.drewN _⟩
          case measure => simp [intOf]; omega
        · have hb1 : (nth ss k != nth ts k) = true := by simp [hne]
          have HN := Lib.hid hne; clear hne
          go_wp2
          go_quiet (fail)
          go_wp2
          go_ret
          exact ⟨ret_bool (by rw [decide_eq_false (eq_no hl.out (by rw [← L1.out]; exact hlt) HN.out)]), HB.out.drewN _⟩
      · go_wp2
        go_ret
        exact ⟨ret_bool (by rw [decide_eq_true (eq_end hl.out (by rw [← L1.out]; exact hlt) HE.out)]), HB.out⟩
  · have h1 : ((n : Int) != (m : Int)) = true := by rw [bne_iff_ne]; omega
    have hne : ss ≠ ts := by rintro rfl; exact hnm (L1.out.trans L2.out.symm)
    have HN := Lib.hid hne; clear hne hnm
    go_enter Try.func24, Try.ntmps24
    go_wp2
    go_ret
    exact ⟨ret_bool (by rw [decide_eq_false HN.out]), Below.refl _ _⟩
def inB (l : List Int) (x : Int) : Bool := l.any fun y => y == x
theorem inB_iff (l : List Int) (x : Int) : inB l x = true ↔ x ∈ l := by unfold inB; simp
theorem In05 (p : Option Addr) (n c : Nat) (l : List Int) (x : Int) (w : World) (hl : Rd w 1 p n (encI l)) :
    Calls Try.prog 26 #[.slice p n c, .int .i64 x] w fun e w' => e = .returned (.bool (inB l x)) ∧ w = w' := by
  have p1 := hl.ptr
  have n1 := hl.small
  have l1 := hl.nI
  have HL := Lib.hid hl; clear hl
  have L1 := Lib.hid l1; clear l1
  go_enter Try.func26, Try.ntmps26
  go_wp2
  go_loop [5] (fun i => ∃ k : Nat, k ≤ n ∧ i = .int .i64 k ∧ (l.take k).any (fun y => y == x) = false) (fun i => n - (intOf i).toNat)
  case atStart => exact ⟨0, Nat.zero_le _, rfl, rfl⟩
  case round =>
    obtain ⟨k, hk, rfl, ha⟩ := hrel
    have HA := Lib.hid ha; clear ha
    by_cases hlt : k < n
    · have g1 := HL.out.cI hlt
      have d1 : (0:Int) ≤ k := by omega
      have d2 : (k:Int) < n := by omega
      cases hq : (nth l k == x) with
      | true =>
        have HF := Lib.hid (any_true_at (fun y => y == x) l k (by rw [← L1.out]; exact hlt) hq)
        go_wp2
        go_ret
        exact ⟨ret_bool HF.out.symm, rfl⟩
      | false =>
        have HF := Lib.hid (any_step (fun y => y == x) l k (by rw [← L1.out]; exact hlt) HA.out hq)
        go_wp2
        go_round
        case rel => exact ⟨k + 1, by omega, by go_num, HF.out⟩
        case measure => simp [intOf]; omega
    · have HF := Lib.hid (any_end _ l k (by rw [← L1.out]; exact hlt) HA.out)
      go_wp2
      go_ret
      exact ⟨ret_bool HF.out.symm, rfl⟩
theorem Rising05s (p : Option Addr) (n c : Nat) (l : List Int) (w : World) (hl : Rd w 1 p n (encI l)) (hz : n ≤ 1000000) :
    Calls Try.prog 67 #[.slice p n c] w fun e w' => ∃ q c', e = .returned (.slice q (putAll ltI l).length c') ∧ Sep w w' [.own 3 1 q (putAll ltI l).length c' (encI (putAll ltI l))] :=
  (Rising05 p n c l w hl hz).mono fun _ _ ⟨q, n', c', he, hn, ho, hx⟩ => by subst hn; exact ⟨q, c', he, Sep.of_own hx ho⟩
def bothS (a b : List Int) : List Int := putAll ltI (a.filter (inB b))
theorem filter_take_succ {α : Type} [Inhabited α] (f : α → Bool) (l : List α) (k : Nat) (h : k < l.length) : (l.take (k + 1)).filter f = (l.take k).filter f ++ (if f (nth l k) then [nth l k] else []) := by
  rw [take_succ_nth l k h, List.filter_append, List.filter_cons]; rfl
theorem filter_len_le {α : Type} (f : α → Bool) (l : List α) (k : Nat) : ((l.take k).filter f).length ≤ k := Nat.le_trans (List.length_filter_le _ _) (by rw [List.length_take]; omega)
set_option maxHeartbeats 400000 in
theorem Both05 (p : Option Addr) (n c : Nat) (a : List Int) (q : Option Addr) (m d : Nat) (b : List Int) (w : World) (ha : Rd w 1 p n (encI a)) (hb : Rd w 1 q m (encI b)) (hn : n ≤ 1000000) :
    Calls Try.prog 35 #[.slice p n c, .slice q m d] w fun e w' => ∃ q c', e = .returned (.slice q (bothS a b).length c') ∧ Sep w w' [.own 3 1 q (bothS a b).length c' (encI (bothS a b))] := by
  obtain ⟨i0, hi0, hz0, hz1, hz2⟩ := info_parts infI
  have p1 := ha.ptr
  have l1 := ha.nI
  have HA := Lib.hid ha; clear ha
  have HB := Lib.hid hb; clear hb
  have L1 := Lib.hid l1; clear l1
  have S0 := Lib.hid ((Sep.start w).nilrow 3 1)
  go_enter Try.func35, Try.ntmps35
  go_wp2
  go_loopw [5, 6] (fun v i wr => ∃ (k : Nat) (u : Option Addr) (e : Nat), k ≤ n ∧ i = .int .i64 k ∧ v = .slice u ((a.take k).filter (inB b)).length e ∧ Sep w wr [.own 3 1 u ((a.take k).filter (inB b)).length e (encI ((a.take k).filter (inB b)))]) (fun _ i _ => n - (intOf i).toNat)
  case atStart => exact ⟨0, none, 0, Nat.zero_le _, rfl, rfl, S0.out⟩
  case round =>
    clear S0
    obtain ⟨k, u, e, hk, rfl, rfl, S⟩ := hrel
    have hfl := filter_len_le (inB b) a k
    by_cases hlt : k < n
    · have g1 := S.ext.cell (HA.out.cI hlt)
      have SH := Lib.hid S; clear S
      have d1 : (0:Int) ≤ k := by omega
      have d2 : (k:Int) < n := by omega
      have HT := Lib.hid (filter_take_succ (inB b) a k (by rw [← L1.out]; exact hlt))
      have HI := Lib.hid (fun W1 (h : Ext w W1) => In05 q m d b (nth a k) W1 (HB.out.ext h))
      cases hq : inB b (nth a k) with
      | true =>
        rw [hq] at HI HT
        clear hq
        go_wp2_with (first
          | (go_at_call 26; go_must (refine (HI.out _ SH.out.ext).mono ?_; rintro e1 w1 ⟨rfl, rfl⟩))
          | (at_builtin; go_must (refine wpList_append_sep rfl _ _ _ rfl 3 i0 _ 1 8 Try.underlying38 hi0 hz0 hz1 hz2 rfl (by omega) (SH.out.junk _) 0 u _ e _ rfl rfl _ 1 1 _ rfl (Rd.oneI _ _ _) (one_encI _) (by omega) (by omega) ?_; intro u' e' w2 S' hsz; have S3 := Lib.hid S'; clear S' hsz)))
        go_roundw
        case rel => exact ⟨k + 1, u', e', by omega, by go_num, by rw [HT.out]; simp, by rw [HT.out]; simp only [if_true, List.length_append, encI_append]; exact S3.out⟩
        case measure => simp [intOf]; omega
      | false =>
        rw [hq] at HI HT
        clear hq
        go_wp2_with (go_at_call 26; go_must (refine (HI.out _ SH.out.ext).mono ?_; rintro e1 w1 ⟨rfl, rfl⟩))
        go_roundw
        case rel => exact ⟨k + 1, u, e, by omega, by go_num, by rw [HT.out]; simp, by rw [HT.out]; simpa using SH.out⟩
        case measure => simp [intOf]; omega
    · obtain rfl : k = n := by omega
      have HT : Hid ((a.take k).filter (inB b) = a.filter (inB b)) := by unfold Hid; rw [List.take_of_length_le (by rw [← L1.out]; omega)]
      have hrd := S.rd 0 rfl (by omega)
      rw [HT.out] at hrd
      rw [HT.out] at hfl
      have RD := Lib.hid hrd; clear hrd
      have SH := Lib.hid S; clear S
      obtain ⟨F, hF⟩ : ∃ F, F = a.filter (inB b) := ⟨_, rfl⟩
      have HBS : Hid (bothS a b = putAll ltI F) := by unfold Hid; rw [hF]; rfl
      rw [HT.out, ← hF]
      rw [← hF] at RD hfl
      clear hF HT
      go_wp2_with (go_at_call 67; go_must (refine (Rising05s u F.length e F _ RD.out (by omega)).mono ?_; rintro e1 w1 ⟨q', c', rfl, S1⟩; have S2 := Lib.hid ((SH.out.pick [] (by decide) rfl : Sep w _ []).comp S1); clear S1))
      go_ret
      rw [HBS.out]
      exact ⟨q', c', rfl, S2.out⟩
end Go.Proofs.Ytcjkechemjdboaa
