/- The law PostingBoth: numbers of both rows are those of each; turned round it is the same; of one row and itself it is that row. -/
import Derived.Test.YtcjkechemjdboaaEx5
import Derived.Test.YtcjkechemjdboaaPlainP
namespace Go.Proofs.Ytcjkechemjdboaa
open Go Go.RowKit
set_option maxRecDepth 100000 in
set_option maxHeartbeats 4000000 in
theorem lawPBoth (pa : Option Addr) (na ca : Nat) (a : List Int) (pb : Option Addr) (nb cb : Nat) (b : List Int) (w : World) (ha : Rd w 1 pa na (encI a)) (hb : Rd w 1 pb nb (encI b)) (hia : ∀ x ∈ a, I64 x) (hib : ∀ x ∈ b, I64 x) :
    Calls Try.prog 7 #[.slice pa na ca, .slice pb nb cb] w fun e w' => e = .returned (.bool true) ∧ Ext w w' := by
  have p1 := ha.ptr
  by_cases hna : 100 < na
  · have d0 : decide ((100:Int) < na) = true := by simp; omega
    clear ha hb
    go_enter Try.func7, Try.ntmps7
    go_wp2
    go_ret
    exact ⟨rfl, Below.refl _ _⟩
  · have d0 : decide ((100:Int) < na) = false := by simp; omega
    by_cases hnb : 100 < nb
    · have d1 : decide ((100:Int) < nb) = true := by simp; omega
      clear ha hb
      go_enter Try.func7, Try.ntmps7
      go_wp2
      go_ret
      exact ⟨rfl, Below.refl _ _⟩
    · have d1 : decide ((100:Int) < nb) = false := by simp; omega
      have HB := Lib.hid (fun W1 (h : Ext w W1) => BothG pa na ca a pb nb cb b W1 (ha.ext h) (hb.ext h) hia hib (by omega) (by omega))
      have HB2 := Lib.hid (fun W1 (h : Ext w W1) => BothG pb nb cb b pa na ca a W1 (hb.ext h) (ha.ext h) hib hia (by omega) (by omega))
      have hil : ∀ x ∈ bothS a b, I64 x := fun x hx => hia x (bothS_iff.1 hx).1
      have hll := bothS_len a b
      rw [← ha.nI] at hll
      have HB3 := Lib.hid (fun q c W1 (h : Rd W1 1 q (bothS a b).length (encI (bothS a b))) => BothG q (bothS a b).length c (bothS a b) q (bothS a b).length c (bothS a b) W1 h h hil hil (by omega) (by omega))
      rw [bothS_comm b a] at HB2
      rw [bothS_self (bothS_rises a b)] at HB3
      have tr : ∀ (x : Int) (l : List Int) W1 (p : Option Addr) (n c : Nat), Rd W1 1 p n (encI l) → ∀ b, inB l x = b → Calls Try.prog 26 #[.slice p n c, .int .i64 x] W1 fun e w' => e = .returned (.bool b) ∧ Ext W1 w' := fun x l W1 p n c h b hb => by
        subst hb
        exact (In05 p n c l x W1 h).mono fun e w' ⟨h1, h2⟩ => ⟨h1, by subst h2; exact Below.refl _ _⟩
      have HIa := Lib.hid (fun W1 (h : Ext w W1) k (hk : k < (bothS a b).length) => tr (nth (bothS a b) k) a W1 pa na ca (ha.ext h) true (inB_true (bothS_iff.1 (nth_mem hk)).1))
      have HIb := Lib.hid (fun W1 (h : Ext w W1) k (hk : k < (bothS a b).length) => tr (nth (bothS a b) k) b W1 pb nb cb (hb.ext h) true (inB_true (bothS_iff.1 (nth_mem hk)).2))
      have HJb := Lib.hid (fun W1 (h : Ext w W1) k (hk : k < a.length) => tr (nth a k) b W1 pb nb cb (hb.ext h) (inB (bothS a b) (nth a k)) (inB_both (nth_mem hk)))
      have HJl := Lib.hid (fun W1 q c (hr : Rd W1 1 q (bothS a b).length (encI (bothS a b))) k => tr (nth a k) (bothS a b) W1 q _ c hr (inB (bothS a b) (nth a k)) rfl)
      have HRi := Lib.hid (fun k (hk : k + 1 < (bothS a b).length) => rises_nth (bothS_rises a b) hk)
      have l1 := ha.nI
      clear hib hil hb tr hia
      generalize bothS a b = l at *
      have HA := Lib.hid ha; clear ha
      have L1 := Lib.hid l1; clear l1
      go_enter Try.func7, Try.ntmps7
      go_wp2_with (go_at_call 34; go_must (refine (HB.out _ (Below.refl _ _)).mono ?_; rintro e w1 ⟨q, c, rfl, T⟩; have S1 := Lib.hid T; clear T))
      go_loopw [6] (fun i wr => ∃ k : Nat, k ≤ l.length ∧ i = .int .i64 k ∧ Sep w wr [.own 3 1 q l.length c (encI l)]) (fun i _ => l.length - (intOf i).toNat)
      case atStart => exact ⟨0, Nat.zero_le _, rfl, S1.out⟩
      case round =>
        clear S1
        obtain ⟨k, hk, rfl, S⟩ := hrel
        have p2 := (S.rd 0 rfl (by omega)).ptr
        by_cases hlt : k < l.length
        · have d2 : (0:Int) ≤ k := by omega
          have d3 : (k:Int) < l.length := by omega
          have e0 := (S.rd 0 rfl (by omega)).cI hlt
          have HIx := Lib.hid (fun x : ExtOf wr => HIa.out x.val (Ext.trans S.ext x.ext) k hlt)
          have HIy := Lib.hid (fun x : ExtOf wr => HIb.out x.val (Ext.trans S.ext x.ext) k hlt)
          by_cases h0 : k = 0
          · subst h0
            have SH := Lib.hid S; clear S
            go_wp2
            have x0 := fun x : ExtOf wr => x.ext.cell e0
            refine wp_region_ext (by kernel_rfl) (by kernel_rfl) ?_
            repeat (go_big_quiet_step (((go_at_call 26; first | with_reducible exact Calls.ext_of (HIx.out _) | with_reducible exact Calls.ext_of (HIy.out _)))))
            refine wpQuiet_nil ?_
            rintro w1 ⟨⟨_, hb1⟩, rfl⟩
            go_wp2
            go_roundw
            case rel => exact ⟨1, by omega, by go_num, SH.out.call hb1⟩
            case measure => simp [intOf]; omega
          · have b3 : decide ((0:Int) < (k:Int)) = true := by simp; omega
            have b3n : decide (0 < k) = true := by simp; omega
            have d4 : (1:Int) ≤ (k:Int) := by omega
            have d5 : (k:Int) - 1 < l.length := by omega
            have d6 : (0:Int) ≤ (k:Int) - 1 := by omega
            have e1 := (S.rd 0 rfl (by omega)).cI (k := k - 1) (by omega)
            have b4 : decide (nth l k ≤ nth l (k - 1)) = false := by
              have := HRi.out (k - 1) (by omega)
              rw [show k - 1 + 1 = k by omega] at this
              simp; omega
            have SH := Lib.hid S; clear S
            go_wp2
            have x0 := fun x : ExtOf wr => x.ext.cell e0
            have x1 := fun x : ExtOf wr => x.ext.cell e1
            refine wp_region_ext (by kernel_rfl) (by kernel_rfl) ?_
            repeat (go_big_quiet_step (((go_at_call 26; first | with_reducible exact Calls.ext_of (HIx.out _) | with_reducible exact Calls.ext_of (HIy.out _)))))
            refine wpQuiet_nil ?_
            rintro w1 ⟨⟨_, hb1⟩, rfl⟩
            go_wp2
            go_roundw
            case rel => exact ⟨k + 1, by omega, by go_num, SH.out.call hb1⟩
            case measure => simp [intOf]; omega
        · have SH := Lib.hid S; clear S
          clear HIa HIb HRi
          go_wp2
          go_loopw [7] (fun i wr => ∃ k : Nat, k ≤ na ∧ i = .int .i64 k ∧ Sep w wr [.own 3 1 q l.length c (encI l)]) (fun i _ => na - (intOf i).toNat)
          case atStart => exact ⟨0, Nat.zero_le _, rfl, SH.out⟩
          case round =>
            clear SH hlt
            obtain ⟨k, hk, rfl, S⟩ := hrel
            by_cases hlt : k < na
            · have d2 : (0:Int) ≤ k := by omega
              have d3 : (k:Int) < na := by omega
              have e0 := S.ext.cell (HA.out.cI hlt)
              have HIx := Lib.hid (fun x : ExtOf wr => HJb.out x.val (Ext.trans S.ext x.ext) k (by rw [← L1.out]; exact hlt))
              have HIy := Lib.hid (fun x : ExtOf wr => HJl.out x.val q c ((S.rd 0 rfl (by omega)).ext x.ext) k)
              generalize inB l (nth a k) = bb at *
              have SH := Lib.hid S; clear S
              go_wp2
              have x0 := fun x : ExtOf wr => x.ext.cell e0
              refine wp_region_ext (by kernel_rfl) (by kernel_rfl) ?_
              repeat (go_big_quiet_step (((go_at_call 26; first | with_reducible exact Calls.ext_of (HIx.out _) | with_reducible exact Calls.ext_of (HIy.out _)))))
              refine wpQuiet_nil ?_
              rintro w1 ⟨⟨_, hb1⟩, rfl⟩
              go_wp2
              go_roundw
              case rel => exact ⟨k + 1, by omega, by go_num, SH.out.call hb1⟩
              case measure => simp [intOf]; omega
            · have SH := Lib.hid S; clear S
              go_wp2_with (first
                | (go_at_call 24; have _t := S5; go_must (refine (IntsT _ _ _ _ _ _ l _ (S5.out.rd 0 rfl (by omega)) (S5.out.rd 2 rfl (by omega))).mono ?_; rintro e w6 ⟨rfl, hb⟩; have S6 := Lib.hid (S5.out.call hb); clear hb))
                | (go_at_call 34; have _t := S4; go_must (refine (HB3.out _ _ _ (S4.out.rd 1 rfl (by omega))).mono ?_; rintro e w5 ⟨q5, c5, rfl, T⟩; have S5 := Lib.hid (S4.out.comp T); clear T))
                | (go_at_call 24; have _t := S3; go_must (refine (IntsT _ _ _ _ _ _ l _ (S3.out.rd 1 rfl (by omega)) (S3.out.rd 0 rfl (by omega))).mono ?_; rintro e w4 ⟨rfl, hb⟩; have S4 := Lib.hid (S3.out.call hb); clear hb))
                | (go_at_call 34; have _t := S2; go_must (refine (HB2.out _ S2.out.ext).mono ?_; rintro e w3 ⟨q3, c3, rfl, T⟩; have S3 := Lib.hid (S2.out.comp T); clear T))
                | (go_at_call 17; go_must (refine (Posted _).mono ?_; rintro e w2 ⟨rfl, hb⟩; have S2 := Lib.hid (SH.out.call hb); clear hb)))
              go_ret
              exact ⟨rfl, S6.out.ext⟩
end Go.Proofs.Ytcjkechemjdboaa
