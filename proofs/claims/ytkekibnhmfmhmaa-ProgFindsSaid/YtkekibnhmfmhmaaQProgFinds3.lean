/- Texts of this claim, one behind the other: Pq1, Pq2, Pg3, Pg4, Eq4, Pq3, Pq4, Pq5, Eq5, Pq7, Pg5, Open, Open5, OpenQ, LFinds18, Post. -/
import Derived.Deep.RegionHeld3
import Derived.ProofKit
import Derived.Deep.Slices
import Derived.Deep.Fields
import Derived.ChangeSame
import Derived.Lib.SmallJoins
import Derived.Below
import Derived.Carry
import Derived.OpenShut
import Derived.Test.YtkekibnhmfmhmaaProg
import Derived.Test.YtkekibnhmfmhmaaQProgFinds2
/- Chapter 18: may a query be (the program's Check). -/
namespace Go.Proofs.Ytkekibnhmfmhmaa
open Go Go.RowKit
theorem placeCl (g : Nat) (v n : Int) (w : World) (hB : Blk w g 3 #[.int .i64 n]) : Calls Try.prog 19 #[.int .i64 v, .pointer (some ⟨g, 0, none⟩)] w fun e w' => e = .returned (.bool (plcB v n)) ∧ w = w' := by
  have b0 : w.cell? ⟨g, 0, none⟩ = some (.int .i64 n) := hB.cell 0
  have bz := hB.lt
  clear hB
  by_cases h : 0 ≤ v
  · go_enter Try.func19, Try.ntmps19
    go_wp2
    go_ret
    exact ⟨ret_bool (by unfold plcB; simp [h]), rfl⟩
  · have e0 : decide (0 ≤ v) = false := by simpa using h
    go_enter Try.func19, Try.ntmps19
    go_wp2
    go_ret
    exact ⟨ret_bool (by unfold plcB; rw [e0]; rfl), rfl⟩
theorem oddCl (s : ByteArray) (w : World) (hs : s.size ≤ 140737488355328) : Calls Try.prog 20 #[.string s] w fun e w' => e = .returned (.bool (!wordB s)) ∧ w = w' := by
  go_enter Try.func20, Try.ntmps20
  go_wp2_with (go_at_call 21; refine (WordG _ _ hs).mono ?_; rintro e w' ⟨rfl, rfl⟩)
  go_ret
  exact ⟨rfl, rfl⟩
set_option maxHeartbeats 400000 in
/-- the first place of a text that is no word, or -1 -/
theorem IndexOdd (p : Option Addr) (n c : Nat) (l : List ByteArray) (w : World) (hl : Rd w 1 p n (encS l)) (hz : ∀ s ∈ l, s.size ≤ 1000000) :
    Calls Try.prog 37 #[.slice p n c, .func (.func 20) #[] #[]] w fun e w' => ∃ i : Int, e = .returned (.int .i64 i) ∧ decide (0 ≤ i) = l.any (fun s => !wordB s) ∧ w = w' := by
  have p1 := hl.ptr
  have n1 := hl.small
  have l1 := hl.nS
  have HL := Lib.hid hl; clear hl
  have L1 := Lib.hid l1; clear l1
  have HZ := Lib.hid hz; clear hz
  go_enter Try.func37, Try.ntmps37
  go_wp2
  go_loop [5, 8] (fun _ i => ∃ k : Nat, k ≤ n ∧ i = .int .i64 k ∧ (l.take k).any (fun s => !wordB s) = false) (fun _ i => n - (intOf i).toNat)
  case atStart => exact ⟨0, Nat.zero_le _, rfl, rfl⟩
  case round =>
    obtain ⟨k, hk, rfl, ha⟩ := hrel
    have HA := Lib.hid ha; clear ha
    by_cases hlt : k < n
    · have g1 := HL.out.cS hlt
      have hsz : (nth l k).size ≤ 140737488355328 := by
        have := HZ.out (nth l k) (by rw [nth_eq (by rw [← L1.out]; exact hlt)]; exact List.getElem_mem _)
        omega
      by_cases hw : (!wordB (nth l k)) = true
      · have HF := Lib.hid (any_true_at (fun s => !wordB s) l k (by rw [← L1.out]; exact hlt) hw)
        go_wp2_with (go_at_call 20; refine (oddCl _ _ hsz).mono ?_; rintro e w' ⟨rfl, rfl⟩)
        go_ret
        exact ⟨_, rfl, by rw [HF.out]; simp, rfl⟩
      · have hw' : (!wordB (nth l k)) = false := by simpa using hw
        have HW' := Lib.hid hw'
        clear hw
        go_wp2_with (go_at_call 20; refine (oddCl _ _ hsz).mono ?_; rintro e w' ⟨rfl, rfl⟩)
        go_round
        case rel => exact ⟨k + 1, by omega, by go_num, any_step _ _ _ (by rw [← L1.out]; exact hlt) HA.out HW'.out⟩
        case measure => simp [intOf]; omega
    · have HF := Lib.hid (any_end _ _ _ (by rw [← L1.out]; exact hlt) HA.out)
      go_wp2
      go_ret
      exact ⟨_, rfl, by rw [HF.out]; rfl, rfl⟩
theorem ContainsOdd (p : Option Addr) (n c : Nat) (l : List ByteArray) (w : World) (hl : Rd w 1 p n (encS l)) (hz : ∀ s ∈ l, s.size ≤ 1000000) :
    Calls Try.prog 22 #[.slice p n c, .func (.func 20) #[] #[]] w fun e w' => e = .returned (.bool (l.any (fun s => !wordB s))) ∧ w = w' := by
  have HC := Lib.hid (IndexOdd p n c l w hl hz)
  clear hl hz
  go_enter Try.func22, Try.ntmps22
  go_wp2_with (go_at_call 37; refine HC.out.mono ?_; rintro e w' ⟨i, rfl, hi, rfl⟩; have HI := Lib.hid hi; clear hi)
  go_ret
  exact ⟨ret_bool HI.out, rfl⟩
theorem all_any_not (ws : List ByteArray) : ws.all wordB = !ws.any (fun s => !wordB s) := by rw [List.all_eq_not_any_not]
theorem Blk.new2 (w : World) (t t2 : TypeId) (cs cs2 : Array Value) : Blk ((w.alloc (.cells cs t)).alloc (.cells cs2 t2)) (w.heap.size + 1) t2 cs2 := by
  have := Blk.new (w.alloc (.cells cs t)) t2 cs2
  rwa [World.size_alloc] at this
set_option maxRecDepth 100000 in
set_option maxHeartbeats 8000000 in
theorem CheckQ (k f t : Int) (pw : Option Addr) (nw cw : Nat) (ws : List ByteArray) (rad most : Int) (n : Int) (w : World) (hw : Rd w 1 pw nw (encS ws)) (hz : ∀ s ∈ ws, s.size ≤ 1000000) :
    Calls Try.prog 8 #[.agg #[.int .i64 k, .int .i64 f, .int .i64 t, .slice pw nw cw, .int .i64 rad, .int .i64 most], .int .i64 n] w fun e w' => e = .returned (.int .i64 (chkQ k f t ws rad most n)) ∧ Ext w w' := by
  have l1 := hw.nS
  have p1 := hw.ptr
  have n1 := hw.small
  have HE := Lib.hid (((Sep.start w).al #[.int .i64 k, .int .i64 f, .int .i64 t, .slice pw nw cw, .int .i64 rad, .int .i64 most] 24 w.heap.size rfl).al #[.int .i64 n] 3 (w.heap.size + 1) (by simp)).ext
  have HW := Lib.hid (hw.ext HE.out)
  have HB := Lib.hid (Blk.new2 w 24 3 #[.int .i64 k, .int .i64 f, .int .i64 t, .slice pw nw cw, .int .i64 rad, .int .i64 most] #[.int .i64 n])
  have HZ := Lib.hid hz
  have L1 := Lib.hid l1
  clear hz l1 hw
  by_cases h12 : k = 1 ∨ k = 2
  · have HO := Lib.hid (okQ_12 (f := f) (t := t) (ws := ws) (rad := rad) (most := most) (n := n) h12)
    cases h1 : plcB f n with
    | false =>
      have HF : Hid (chkQ k f t ws rad most n = 180) := chkQ_no (by rw [HO.out, h1]; rfl)
      have g3 : (k == 3) = false := by rw [beq_eq_false_iff_ne]; omega
      by_cases k1 : k = 1
      · subst k1
        clear h12
        go_enter Try.func8, Try.ntmps8
        go_wp2_with (first | (go_at_call 22; refine (ContainsOdd _ _ _ ws _ HW.out HZ.out).mono ?_; rintro e w' ⟨rfl, rfl⟩) | (go_at_call 19; refine (placeCl _ _ n _ HB.out).mono ?_; rintro e w' ⟨rfl, rfl⟩))
        go_ret
        exact ⟨by (rw [HF.out]; rfl), HE.out⟩
      · obtain rfl : k = 2 := by omega
        clear h12 k1
        go_enter Try.func8, Try.ntmps8
        go_wp2_with (first | (go_at_call 22; refine (ContainsOdd _ _ _ ws _ HW.out HZ.out).mono ?_; rintro e w' ⟨rfl, rfl⟩) | (go_at_call 19; refine (placeCl _ _ n _ HB.out).mono ?_; rintro e w' ⟨rfl, rfl⟩))
        go_ret
        exact ⟨by (rw [HF.out]; rfl), HE.out⟩
    | true =>
      cases h2 : plcB t n with
      | false =>
        have HF : Hid (chkQ k f t ws rad most n = 180) := chkQ_no (by rw [HO.out, h1, h2]; rfl)
        by_cases k1 : k = 1
        · subst k1
          clear h12
          go_enter Try.func8, Try.ntmps8
          go_wp2_with (first | (go_at_call 22; refine (ContainsOdd _ _ _ ws _ HW.out HZ.out).mono ?_; rintro e w' ⟨rfl, rfl⟩) | (go_at_call 19; refine (placeCl _ _ n _ HB.out).mono ?_; rintro e w' ⟨rfl, rfl⟩))
          go_ret
          exact ⟨by (rw [HF.out]; rfl), HE.out⟩
        · obtain rfl : k = 2 := by omega
          clear h12 k1
          go_enter Try.func8, Try.ntmps8
          go_wp2_with (first | (go_at_call 22; refine (ContainsOdd _ _ _ ws _ HW.out HZ.out).mono ?_; rintro e w' ⟨rfl, rfl⟩) | (go_at_call 19; refine (placeCl _ _ n _ HB.out).mono ?_; rintro e w' ⟨rfl, rfl⟩))
          go_ret
          exact ⟨by (rw [HF.out]; rfl), HE.out⟩
      | true =>
        have HF : Hid (chkQ k f t ws rad most n = 0) := chkQ_yes (by rw [HO.out, h1, h2]; rfl)
        by_cases k1 : k = 1
        · subst k1
          clear h12
          go_enter Try.func8, Try.ntmps8
          go_wp2_with (first | (go_at_call 22; refine (ContainsOdd _ _ _ ws _ HW.out HZ.out).mono ?_; rintro e w' ⟨rfl, rfl⟩) | (go_at_call 19; refine (placeCl _ _ n _ HB.out).mono ?_; rintro e w' ⟨rfl, rfl⟩))
          go_ret
          exact ⟨by (rw [HF.out]; rfl), HE.out⟩
        · obtain rfl : k = 2 := by omega
          clear h12 k1
          go_enter Try.func8, Try.ntmps8
          go_wp2_with (first | (go_at_call 22; refine (ContainsOdd _ _ _ ws _ HW.out HZ.out).mono ?_; rintro e w' ⟨rfl, rfl⟩) | (go_at_call 19; refine (placeCl _ _ n _ HB.out).mono ?_; rintro e w' ⟨rfl, rfl⟩))
          go_ret
          exact ⟨by (rw [HF.out]; rfl), HE.out⟩
  · have g1 : (k == 1) = false := by rw [beq_eq_false_iff_ne]; omega
    have g2 : (k == 2) = false := by rw [beq_eq_false_iff_ne]; omega
    by_cases h3 : k = 3
    · subst h3
      have HO := Lib.hid (okQ_3 (f := f) (t := t) (ws := ws) (rad := rad) (most := most) (n := n))
      clear h12
      by_cases c1 : 1 ≤ nw
      · by_cases c2 : nw ≤ 8
        · cases hw : ws.any (fun s => !wordB s) with
          | true =>
            have HM : manyB ws = false := by unfold manyB; rw [all_any_not, hw]; simp
            have HF : Hid (chkQ 3 f t ws rad most n = 180) := chkQ_no (by rw [HO.out, HM]; simp)
            clear HM
            rcases Bool.eq_false_or_eq_true (plcB f n) with h1 | h1 <;> (go_enter Try.func8, Try.ntmps8; go_wp2_with (first | (go_at_call 22; refine (ContainsOdd _ _ _ ws _ HW.out HZ.out).mono ?_; rintro e w' ⟨rfl, rfl⟩) | (go_at_call 19; refine (placeCl _ _ n _ HB.out).mono ?_; rintro e w' ⟨rfl, rfl⟩)); go_ret; exact ⟨by (rw [HF.out]; rfl), HE.out⟩)
          | false =>
            have HM : manyB ws = true := by unfold manyB; rw [all_any_not, hw, ← L1.out]; simp [c1, c2]
            rw [HM, Bool.and_true] at HO
            clear HM
            cases h1 : plcB f n with
            | false =>
              have HF : Hid (chkQ 3 f t ws rad most n = 180) := chkQ_no (by rw [HO.out, h1]; simp)
              (go_enter Try.func8, Try.ntmps8; go_wp2_with (first | (go_at_call 22; refine (ContainsOdd _ _ _ ws _ HW.out HZ.out).mono ?_; rintro e w' ⟨rfl, rfl⟩) | (go_at_call 19; refine (placeCl _ _ n _ HB.out).mono ?_; rintro e w' ⟨rfl, rfl⟩)); go_ret; exact ⟨by (rw [HF.out]; rfl), HE.out⟩)
            | true =>
              rw [h1, Bool.true_and] at HO
              by_cases r1 : 0 ≤ rad
              · by_cases r2 : rad ≤ 200
                · by_cases m1 : 1 ≤ most
                  · by_cases m2 : most ≤ 100
                    · have HF : Hid (chkQ 3 f t ws rad most n = 0) := chkQ_yes (by rw [HO.out]; unfold numB; simp [r1, r2, m1, m2])
                      (go_enter Try.func8, Try.ntmps8; go_wp2_with (first | (go_at_call 22; refine (ContainsOdd _ _ _ ws _ HW.out HZ.out).mono ?_; rintro e w' ⟨rfl, rfl⟩) | (go_at_call 19; refine (placeCl _ _ n _ HB.out).mono ?_; rintro e w' ⟨rfl, rfl⟩)); go_ret; exact ⟨by (rw [HF.out]; rfl), HE.out⟩)
                    · have e : decide (most ≤ 100) = false := by simpa using m2
                      have HF : Hid (chkQ 3 f t ws rad most n = 180) := chkQ_no (by rw [HO.out]; unfold numB; rw [e]; simp)
                      (go_enter Try.func8, Try.ntmps8; go_wp2_with (first | (go_at_call 22; refine (ContainsOdd _ _ _ ws _ HW.out HZ.out).mono ?_; rintro e w' ⟨rfl, rfl⟩) | (go_at_call 19; refine (placeCl _ _ n _ HB.out).mono ?_; rintro e w' ⟨rfl, rfl⟩)); go_ret; exact ⟨by (rw [HF.out]; rfl), HE.out⟩)
                  · have e : decide (1 ≤ most) = false := by simpa using m1
                    have HF : Hid (chkQ 3 f t ws rad most n = 180) := chkQ_no (by rw [HO.out]; unfold numB; rw [e]; simp)
                    (go_enter Try.func8, Try.ntmps8; go_wp2_with (first | (go_at_call 22; refine (ContainsOdd _ _ _ ws _ HW.out HZ.out).mono ?_; rintro e w' ⟨rfl, rfl⟩) | (go_at_call 19; refine (placeCl _ _ n _ HB.out).mono ?_; rintro e w' ⟨rfl, rfl⟩)); go_ret; exact ⟨by (rw [HF.out]; rfl), HE.out⟩)
                · have e : decide (rad ≤ 200) = false := by simpa using r2
                  have HF : Hid (chkQ 3 f t ws rad most n = 180) := chkQ_no (by rw [HO.out]; unfold numB; rw [e]; simp)
                  (go_enter Try.func8, Try.ntmps8; go_wp2_with (first | (go_at_call 22; refine (ContainsOdd _ _ _ ws _ HW.out HZ.out).mono ?_; rintro e w' ⟨rfl, rfl⟩) | (go_at_call 19; refine (placeCl _ _ n _ HB.out).mono ?_; rintro e w' ⟨rfl, rfl⟩)); go_ret; exact ⟨by (rw [HF.out]; rfl), HE.out⟩)
              · have e : decide (0 ≤ rad) = false := by simpa using r1
                have HF : Hid (chkQ 3 f t ws rad most n = 180) := chkQ_no (by rw [HO.out]; unfold numB; rw [e]; simp)
                (go_enter Try.func8, Try.ntmps8; go_wp2_with (first | (go_at_call 22; refine (ContainsOdd _ _ _ ws _ HW.out HZ.out).mono ?_; rintro e w' ⟨rfl, rfl⟩) | (go_at_call 19; refine (placeCl _ _ n _ HB.out).mono ?_; rintro e w' ⟨rfl, rfl⟩)); go_ret; exact ⟨by (rw [HF.out]; rfl), HE.out⟩)
        · have HM : manyB ws = false := by unfold manyB; rw [← L1.out]; simp [c2]
          have HF : Hid (chkQ 3 f t ws rad most n = 180) := chkQ_no (by rw [HO.out, HM]; simp)
          have e : decide ((nw:Int) ≤ 8) = false := by simp; omega
          have en : decide (nw ≤ 8) = false := by simpa using c2
          clear HM
          rcases Bool.eq_false_or_eq_true (plcB f n) with h1 | h1 <;> (go_enter Try.func8, Try.ntmps8; go_wp2_with (first | (go_at_call 22; refine (ContainsOdd _ _ _ ws _ HW.out HZ.out).mono ?_; rintro e w' ⟨rfl, rfl⟩) | (go_at_call 19; refine (placeCl _ _ n _ HB.out).mono ?_; rintro e w' ⟨rfl, rfl⟩)); go_ret; exact ⟨by (rw [HF.out]; rfl), HE.out⟩)
      · have HM : manyB ws = false := by unfold manyB; rw [← L1.out]; simp [c1]
        have HF : Hid (chkQ 3 f t ws rad most n = 180) := chkQ_no (by rw [HO.out, HM]; simp)
        have e : decide ((1:Int) ≤ (nw:Int)) = false := by simp; omega
        have en : decide (1 ≤ nw) = false := by simpa using c1
        clear HM
        rcases Bool.eq_false_or_eq_true (plcB f n) with h1 | h1 <;> (go_enter Try.func8, Try.ntmps8; go_wp2_with (first | (go_at_call 22; refine (ContainsOdd _ _ _ ws _ HW.out HZ.out).mono ?_; rintro e w' ⟨rfl, rfl⟩) | (go_at_call 19; refine (placeCl _ _ n _ HB.out).mono ?_; rintro e w' ⟨rfl, rfl⟩)); go_ret; exact ⟨by (rw [HF.out]; rfl), HE.out⟩)
    · have HF : Hid (chkQ k f t ws rad most n = 180) := chkQ_no (okQ_else h12 h3)
      have g3 : (k == 3) = false := by rw [beq_eq_false_iff_ne]; exact h3
      clear h12 h3
      go_enter Try.func8, Try.ntmps8
      go_wp2_with (first | (go_at_call 22; refine (ContainsOdd _ _ _ ws _ HW.out HZ.out).mono ?_; rintro e w' ⟨rfl, rfl⟩) | (go_at_call 19; refine (placeCl _ _ n _ HB.out).mono ?_; rintro e w' ⟨rfl, rfl⟩))
      go_ret
      exact ⟨by (rw [HF.out]; rfl), HE.out⟩
end Go.Proofs.Ytkekibnhmfmhmaa
/- Chapter 18: the messages that a query starts with (the program's Start). -/
namespace Go.Proofs.Ytkekibnhmfmhmaa
open Go Go.RowKit
theorem infMail : (Try.prog.info? 57).map (fun i => (i.zero, i.size, i.bytes)) = some (some (.agg #[.int .i64 0, .int .i64 0, .int .i64 0, .int .i64 0]), 4, 32) := by kernel_rfl
theorem one_encQ (l : List Sq) : ∀ u ∈ encQ l, u.oneCell' = true := by
  intro u hu
  simp only [encQ, List.mem_flatMap] at hu
  obtain ⟨x, _, hx⟩ := hu
  simp only [List.mem_cons, List.not_mem_nil, or_false] at hx
  rcases hx with rfl | rfl | rfl | rfl <;> rfl
theorem Rd.oneQ (w : World) (t : TypeId) (x : Sq) : Rd (w.alloc (.cells #[.int .i64 x.s, .int .i64 x.r, .int .i64 x.v, .int .i64 x.d] t)) 4 (some ⟨w.heap.size, 0, none⟩) 1 (encQ [x]) := Rd.new w t [.int .i64 x.s, .int .i64 x.r, .int .i64 x.v, .int .i64 x.d] 1 4 rfl (by omega)
set_option maxHeartbeats 1000000 in
theorem beginCl (gl gs : Nat) (q : Option Addr) (n c : Nat) (L : List Sq) (s r v : Int) (w w0 : World) (Γ : List Pc) (S : Sep w0 w (.own 57 4 q n c (encQ L) :: .blk gl 29 #[.slice q n c] :: .blk gs 3 #[.int .i64 s] :: Γ)) (hn : n ≤ 1000) :
    Calls Try.prog 24 #[.int .i64 r, .int .i64 v, .pointer (some ⟨gl, 0, none⟩), .pointer (some ⟨gs, 0, none⟩)] w fun e w' => e = .returned (.tuple #[]) ∧ ∃ q' c', Sep w0 w' (.own 57 4 q' (n + 1) c' (encQ (L ++ [⟨s, r, v, 0⟩])) :: .blk gl 29 #[.slice q' (n + 1) c'] :: .blk gs 3 #[.int .i64 s] :: Γ) := by
  obtain ⟨i0, hi0, hz0, hz1, hz2⟩ := info_parts infMail
  have b0 : w.cell? ⟨gl, 0, none⟩ = some (.slice q n c) := (S.blk 1 rfl).cell 0
  have bz := (S.blk 1 rfl).lt
  have e0 : w.cell? ⟨gs, 0, none⟩ = some (.int .i64 s) := (S.blk 2 rfl).cell 0
  have ez := (S.blk 2 rfl).lt
  have SH := Lib.hid S; clear S
  go_enter Try.func24, Try.ntmps24
  go_wp2_with (at_builtin; go_must (refine wpList_append_sep rfl _ _ _ rfl 57 i0 _ 4 32 Try.underlying29 hi0 hz0 hz1 hz2 rfl (by omega) (SH.out.junk _) 0 q n c _ rfl rfl _ 1 1 _ rfl (Rd.oneQ _ _ ⟨s, r, v, 0⟩) (one_encQ _) (by omega) (by omega) ?_; intro q' c' w1 S' hsz; have S1 := Lib.hid S'; have kf := (S'.blk 1 rfl).frozen 0; have kz := (S'.blk 1 rfl).lt; have k4 : w1.cell? ⟨gl, 0, none⟩ = some (.slice q n c) := (S'.blk 1 rfl).cell 0; clear S' hsz))
  go_end0
  exact ⟨rfl, q', c', by rw [encQ_append]; exact S1.out.set 1 rfl 0 (.slice q' (n + 1) c')⟩
set_option maxRecDepth 100000 in
set_option maxHeartbeats 4000000 in
theorem StartQ (k f t : Int) (pw : Option Addr) (nw cw : Nat) (rad most s : Int) (w : World) :
    Calls Try.prog 10 #[.agg #[.int .i64 k, .int .i64 f, .int .i64 t, .slice pw nw cw, .int .i64 rad, .int .i64 most], .int .i64 s] w fun e w' => ∃ q c, e = .returned (.slice q (startQ k f t s).length c) ∧ Sep w w' [.own 57 4 q (startQ k f t s).length c (encQ (startQ k f t s))] := by
  have S0 := Lib.hid (((((Sep.start w).al #[.int .i64 k, .int .i64 f, .int .i64 t, .slice pw nw cw, .int .i64 rad, .int .i64 most] 24 w.heap.size rfl).al #[.int .i64 s] 3 (w.heap.size + 1) (by simp)).al #[.slice none 0 0] 29 (w.heap.size + 2) (by simp)).nilrow 57 4)
  by_cases k1 : k = 1
  · subst k1
    have HQ : Hid (startQ 1 f t s = [⟨s, 0, f, 0⟩, ⟨s, 1, t, 0⟩]) := rfl
    rw [HQ.out]
    go_enter Try.func10, Try.ntmps10
    go_wp2_with (first | (go_at_call 24; have _t := S1; go_must (refine (beginCl _ _ q1 1 c1 _ s _ _ _ _ _ S1.out (by omega)).mono ?_; rintro e w2 ⟨rfl, q2, c2, T⟩; have S2 := Lib.hid T; clear b0 b2 bz lz l0; have b0 : w2.cell? ⟨w.heap.size, 1, none⟩ = some (.int .i64 f) := (T.blk 3 rfl).cell 1; have b2 : w2.cell? ⟨w.heap.size, 2, none⟩ = some (.int .i64 t) := (T.blk 3 rfl).cell 2; have bz := (T.blk 3 rfl).lt; have lz := (T.blk 1 rfl).lt; have l0 : w2.cell? ⟨w.heap.size + 2, 0, none⟩ = some (.slice q2 2 c2) := (T.blk 1 rfl).cell 0; clear T)) | (go_at_call 24; go_must (refine (beginCl _ _ none 0 0 [] s _ _ _ _ _ S0.out (by omega)).mono ?_; rintro e w1 ⟨rfl, q1, c1, T⟩; have S1 := Lib.hid T; have b0 : w1.cell? ⟨w.heap.size, 1, none⟩ = some (.int .i64 f) := (T.blk 3 rfl).cell 1; have b2 : w1.cell? ⟨w.heap.size, 2, none⟩ = some (.int .i64 t) := (T.blk 3 rfl).cell 2; have bz := (T.blk 3 rfl).lt; have lz := (T.blk 1 rfl).lt; have l0 : w1.cell? ⟨w.heap.size + 2, 0, none⟩ = some (.slice q1 1 c1) := (T.blk 1 rfl).cell 0; clear T)))
    go_ret
    exact ⟨q2, c2, rfl, S2.out.pick [0] (by decide) rfl⟩
  · by_cases k23 : k = 2 ∨ k = 3
    · have HQ : Hid (startQ k f t s = [⟨s, 0, f, 0⟩]) := by unfold Hid startQ; rw [if_neg k1, if_pos k23]
      rw [HQ.out]
      clear HQ k1
      by_cases k2 : k = 2
      · subst k2
        clear k23
        go_enter Try.func10, Try.ntmps10
        go_wp2_with (first | (go_at_call 24; go_must (refine (beginCl _ _ none 0 0 [] s _ _ _ _ _ S0.out (by omega)).mono ?_; rintro e w1 ⟨rfl, q1, c1, T⟩; have S1 := Lib.hid T; have b0 : w1.cell? ⟨w.heap.size, 1, none⟩ = some (.int .i64 f) := (T.blk 3 rfl).cell 1; have b2 : w1.cell? ⟨w.heap.size, 2, none⟩ = some (.int .i64 t) := (T.blk 3 rfl).cell 2; have bz := (T.blk 3 rfl).lt; have lz := (T.blk 1 rfl).lt; have l0 : w1.cell? ⟨w.heap.size + 2, 0, none⟩ = some (.slice q1 1 c1) := (T.blk 1 rfl).cell 0; clear T)))
        go_ret
        exact ⟨q1, c1, rfl, S1.out.pick [0] (by decide) rfl⟩
      · obtain rfl : k = 3 := by omega
        clear k23 k2
        go_enter Try.func10, Try.ntmps10
        go_wp2_with (first | (go_at_call 24; go_must (refine (beginCl _ _ none 0 0 [] s _ _ _ _ _ S0.out (by omega)).mono ?_; rintro e w1 ⟨rfl, q1, c1, T⟩; have S1 := Lib.hid T; have b0 : w1.cell? ⟨w.heap.size, 1, none⟩ = some (.int .i64 f) := (T.blk 3 rfl).cell 1; have b2 : w1.cell? ⟨w.heap.size, 2, none⟩ = some (.int .i64 t) := (T.blk 3 rfl).cell 2; have bz := (T.blk 3 rfl).lt; have lz := (T.blk 1 rfl).lt; have l0 : w1.cell? ⟨w.heap.size + 2, 0, none⟩ = some (.slice q1 1 c1) := (T.blk 1 rfl).cell 0; clear T)))
        go_ret
        exact ⟨q1, c1, rfl, S1.out.pick [0] (by decide) rfl⟩
    · have HQ : Hid (startQ k f t s = []) := by unfold Hid startQ; rw [if_neg k1, if_neg k23]
      rw [HQ.out]
      have g1 : (k == 1) = false := by rw [beq_eq_false_iff_ne]; omega
      have g2 : (k == 2) = false := by rw [beq_eq_false_iff_ne]; omega
      have g3 : (k == 3) = false := by rw [beq_eq_false_iff_ne]; omega
      clear HQ k1 k23
      go_enter Try.func10, Try.ntmps10
      go_wp2
      go_ret
      exact ⟨none, 0, rfl, S0.out.pick [0] (by decide) rfl⟩
end Go.Proofs.Ytkekibnhmfmhmaa
/- Chapter 18: is there a message of a direction (the program's Done, its closures). -/
namespace Go.Proofs.Ytkekibnhmfmhmaa
open Go Go.RowKit
theorem mailCl (g : Nat) (x : Sq) (r : Int) (w : World) (hB : Blk w g 3 #[.int .i64 r]) : Calls Try.prog 29 #[.agg #[.int .i64 x.s, .int .i64 x.r, .int .i64 x.v, .int .i64 x.d], .pointer (some ⟨g, 0, none⟩)] w fun e w' => e = .returned (.bool (x.r == r)) ∧ Ext w w' := by
  have b0 : w.cell? ⟨g, 0, none⟩ = some (.int .i64 r) := hB.cell 0
  have bz := hB.lt
  have HE := Lib.hid ((Sep.start w).al #[.int .i64 x.s, .int .i64 x.r, .int .i64 x.v, .int .i64 x.d] 57 w.heap.size rfl).ext
  clear hB
  go_enter Try.func29, Try.ntmps29
  go_wp2
  go_ret
  exact ⟨rfl, HE.out⟩
set_option maxHeartbeats 1000000 in
/-- the first message of a direction, or -1 -/
theorem IndexDir (p : Option Addr) (n c g : Nat) (l : List Sq) (r : Int) (w : World) (hl : Rd w 4 p n (encQ l)) (hB : Blk w g 3 #[.int .i64 r]) :
    Calls Try.prog 39 #[.slice p n c, .func (.func 29) #[] #[.pointer (some ⟨g, 0, none⟩)]] w fun e w' => ∃ i : Int, e = .returned (.int .i64 i) ∧ decide (0 ≤ i) = hasD l r ∧ Ext w w' := by
  have p1 := hl.ptr
  have n1 := hl.small
  have l1 := hl.nQ
  have HL := Lib.hid hl; clear hl
  have L1 := Lib.hid l1; clear l1
  have HB := Lib.hid hB; clear hB
  go_enter Try.func39, Try.ntmps39
  go_wp2
  go_loopw [5, 8] (fun _ i wr => ∃ k : Nat, k ≤ n ∧ i = .int .i64 k ∧ (l.take k).any (fun x => x.r == r) = false ∧ Ext w wr) (fun _ i _ => n - (intOf i).toNat)
  case atStart => exact ⟨0, Nat.zero_le _, rfl, rfl, Below.refl _ _⟩
  case round =>
    obtain ⟨k, hk, rfl, ha, hE⟩ := hrel
    have HA := Lib.hid ha; clear ha
    by_cases hlt : k < n
    · obtain ⟨g1, g2, g3, g4⟩ := (HL.out.ext hE).cQ hlt
      have HC := Lib.hid (fun x => mailCl g x r wr (HB.out.ext hE))
      have hkl : k < l.length := by rw [← L1.out]; exact hlt
      have HTA := Lib.hid (any_true_at (fun x : Sq => x.r == r) l k hkl)
      have HST := Lib.hid (any_step (fun x : Sq => x.r == r) l k hkl HA.out)
      have d1 : (0:Int) ≤ k := by omega
      have d2 : (k:Int) < n := by omega
      have HE := Lib.hid hE; clear hE
      clear hkl
      generalize nth l k = x at *
      by_cases hw : x.r = r
      · have e1 : (x.r == r) = true := by simpa using hw
        have HF := Lib.hid (HTA.out e1)
        have HC2 := HC.out x
        rw [e1] at HC2
        have HC3 := Lib.hid HC2
        clear HST HTA HC2 e1 hw
        go_wp2_with (go_at_call 29; go_must (refine HC3.out.mono ?_; rintro e w' ⟨rfl, hb⟩; have HX := Lib.hid (Ext.trans HE.out hb); clear hb))
        go_ret
        exact ⟨_, rfl, by unfold hasD; rw [HF.out]; simp, HX.out⟩
      · have e1 : (x.r == r) = false := by simpa using hw
        have HF := Lib.hid (HST.out e1)
        have HC2 := HC.out x
        rw [e1] at HC2
        have HC3 := Lib.hid HC2
        clear HST HTA HC2 e1 hw
        go_wp2_with (go_at_call 29; go_must (refine HC3.out.mono ?_; rintro e w' ⟨rfl, hb⟩; have HX := Lib.hid (Ext.trans HE.out hb); clear hb))
        go_roundw
        case rel => exact ⟨k + 1, by omega, by go_num, HF.out, HX.out⟩
        case measure => simp [intOf]; omega
    · have HF := Lib.hid (any_end _ _ _ (by rw [← L1.out]; exact hlt) HA.out)
      have HE := Lib.hid hE; clear hE
      go_wp2
      go_ret
      exact ⟨_, rfl, by unfold hasD; rw [HF.out]; rfl, HE.out⟩
theorem ContainsDir (p : Option Addr) (n c g : Nat) (l : List Sq) (r : Int) (w : World) (hl : Rd w 4 p n (encQ l)) (hB : Blk w g 3 #[.int .i64 r]) :
    Calls Try.prog 28 #[.slice p n c, .func (.func 29) #[] #[.pointer (some ⟨g, 0, none⟩)]] w fun e w' => e = .returned (.bool (hasD l r)) ∧ Ext w w' := by
  have HC := Lib.hid (IndexDir p n c g l r w hl hB)
  clear hl hB
  go_enter Try.func28, Try.ntmps28
  go_wp2_with (go_at_call 39; refine HC.out.mono ?_; rintro e w' ⟨i, rfl, hi, hb⟩; have HI := Lib.hid hi; have HX := Lib.hid hb; clear hi hb)
  go_ret
  exact ⟨ret_bool HI.out, HX.out⟩
/-- is there a message of a direction: the closure -/
theorem ofCl (gm : Nat) (p : Option Addr) (n c : Nat) (l : List Sq) (r : Int) (w : World) (hl : Rd w 4 p n (encQ l)) (hM : Blk w gm 29 #[.slice p n c]) :
    Calls Try.prog 27 #[.int .i64 r, .pointer (some ⟨gm, 0, none⟩)] w fun e w' => e = .returned (.bool (hasD l r)) ∧ Ext w w' := by
  have b0 : w.cell? ⟨gm, 0, none⟩ = some (.slice p n c) := hM.cell 0
  have bz := hM.lt
  have S0 := Lib.hid ((Sep.start w).al #[.int .i64 r] 3 w.heap.size rfl)
  have HC := Lib.hid (ContainsDir p n c w.heap.size l r _ (hl.ext S0.out.ext) (S0.out.blk 0 rfl))
  clear hl hM
  go_enter Try.func27, Try.ntmps27
  go_wp2_with (go_at_call 28; refine HC.out.mono ?_; rintro e w' ⟨rfl, hb⟩; have HX := Lib.hid (Ext.trans S0.out.ext hb); clear hb)
  go_ret
  exact ⟨rfl, HX.out⟩
end Go.Proofs.Ytkekibnhmfmhmaa
/- Chapter 18: is a query of the kind 1 done (the program's Done). -/
namespace Go.Proofs.Ytkekibnhmfmhmaa
open Go Go.RowKit
theorem noPanic_q {Q : Exit → Act → World → Prop} (d : Option Nat) (v : Value) : ∀ (c : List PanicEntry) (a : Act) (w : World), NoPanic Q (.panic c) (a.put d v) w → NoPanic Q (.panic c) a w := fun _ _ _ h => h.elim
theorem noPanic_mk {Q : Exit → Act → World → Prop} {a : Act} {w : World} (h : Q .normal a w) : NoPanic Q .normal a w := h
set_option maxRecDepth 100000 in
set_option maxHeartbeats 4000000 in
theorem Done1 (f t : Int) (pw : Option Addr) (nw cw : Nat) (rad most : Int) (pl : Option Addr) (nl cl : Nat) (p : Option Addr) (n c : Nat) (l : List Sq) (pm : Option Addr) (nm cm : Nat) (M : List Sq) (w : World) (hl : Rd w 4 p n (encQ l)) (hM : Rd w 4 pm nm (encQ M)) (hi : ∀ x ∈ l, I64 x.v ∧ I64 x.d) (hb : ∀ x ∈ l, -1000000 ≤ x.d ∧ x.d ≤ 1000000) (hn : n ≤ 1000000) :
    Calls Try.prog 14 #[.agg #[.int .i64 1, .int .i64 f, .int .i64 t, .slice pw nw cw, .int .i64 rad, .int .i64 most], .slice pl nl cl, .slice p n c, .slice pm nm cm] w fun e w' => ∃ b d, e = .returned (.tuple #[.agg #[.bool b, .int .i64 d, .slice none 0 0], .bool (b || !hasD M 0 || !hasD M 1)]) ∧ Ext w w' ∧ MeetA l b d := by
  have S0 := Lib.hid ((((Sep.start w).al #[.int .i64 1, .int .i64 f, .int .i64 t, .slice pw nw cw, .int .i64 rad, .int .i64 most] 24 w.heap.size rfl).al #[.slice pm nm cm] 29 (w.heap.size + 1) (by simp)).al #[.bool false, .int .i64 0, .slice none 0 0] 38 (w.heap.size + 1 + 1) (by simp))
  have HME := Lib.hid (fun W (h : Ext w W) => meetPG p n c l W (hl.ext h) hi hb hn)
  have HMR := Lib.hid hM
  clear hl hM hi hb
  go_enter Try.func14, Try.ntmps14
  go_wp2_with (go_at_call 30; go_must (refine (HME.out _ S0.out.ext).mono ?_; rintro e w1 ⟨b, d, rfl, hE, hA⟩; have HA := Lib.hid hA; have S1 := Lib.hid (S0.out.call hE); clear hE hA))
  obtain ⟨X, hX⟩ : ∃ X, X = w1.alloc (.cells #[.bool b, .int .i64 d, .slice none 0 0] 38) := ⟨_, rfl⟩
  have S4 := Lib.hid (hX ▸ S1.out.al #[.bool b, .int .i64 d, .slice none 0 0] 38 w1.heap.size rfl : Sep w X _)
  rw [← hX]
  clear hX
  have b0 : X.cell? ⟨w1.heap.size, 0, none⟩ = some (.bool b) := (S4.out.blk 0 rfl).cell 0
  have b1 : X.cell? ⟨w1.heap.size, 1, none⟩ = some (.int .i64 d) := (S4.out.blk 0 rfl).cell 1
  have b2 : X.cell? ⟨w1.heap.size, 2, none⟩ = some (.slice none 0 0) := (S4.out.blk 0 rfl).cell 2
  have bz := (S4.out.blk 0 rfl).lt
  have hne : w1.heap.size ≠ w.heap.size + 1 + 1 := by have := (S1.out.blk 0 rfl).lt; omega
  have HOF := Lib.hid (fun r W (h : Ext w W) (hB : Blk W (w.heap.size + 1) 29 #[.slice pm nm cm]) => ofCl (w.heap.size + 1) pm nm cm M r W (HMR.out.ext h) hB)
  cases b with
  | true =>
    have HD : Hid ((true || !hasD M 0 || !hasD M 1) = true) := rfl
    refine wp_region_noPanic ?_
    refine wp_region_held_drew (S := fun w' => w'.cell? ⟨w1.heap.size, 0, none⟩ = some (.bool true) ∧ w'.cell? ⟨w1.heap.size, 1, none⟩ = some (.int .i64 d) ∧ w'.cell? ⟨w1.heap.size, 2, none⟩ = some (.slice none 0 0)) (by kernel_rfl) ⟨b0, b1, b2⟩ (fun hHeld => ?_)
    have SD := Lib.hid S4.out.drew
    clear b0 b1 b2 bz S4
    generalize X.drew = D at SD hHeld ⊢
    refine wpAnyH_take (i := 0) (v := .agg #[.bool true, .int .i64 d, .slice none 0 0]) rfl (by kernel_rfl) (by kernel_rfl) (by kernel_rfl) (noPanic_q _ _) (Or.inl ⟨by kernel_rfl, fun W hSw => by obtain ⟨h1, h2, h3⟩ := hSw; go_simp⟩) hHeld ?_
    refine wpAnyH_take (i := 1) (v := .pointer (some ⟨w1.heap.size, 0, none⟩)) rfl (by kernel_rfl) (by kernel_rfl) (by kernel_rfl) (noPanic_q _ _) (Or.inl ⟨by kernel_rfl, fun W hSw => by obtain ⟨h1, h2, h3⟩ := hSw; go_simp⟩) hHeld ?_
    refine wpAnyH_take (i := 2) (v := .bool true) rfl (by kernel_rfl) (by kernel_rfl) (by kernel_rfl) (noPanic_q _ _) (Or.inl ⟨by kernel_rfl, fun W hSw => by obtain ⟨h1, h2, h3⟩ := hSw; go_simp⟩) hHeld ?_
    refine wpAnyH_take (i := 3) (v := .bool true) rfl (by kernel_rfl) (by kernel_rfl) (by kernel_rfl) (noPanic_q _ _) (Or.inl ⟨by kernel_rfl, fun W hSw => by obtain ⟨h1, h2, h3⟩ := hSw; go_simp⟩) hHeld ?_

    refine wpAnyH_take (i := 4) (v := undef) rfl (by kernel_rfl) (by kernel_rfl) (by kernel_rfl) (noPanic_q _ _) (Or.inr ⟨by kernel_rfl, rfl⟩) hHeld ?_

    refine wpAnyH_take (i := 5) (v := undef) rfl (by kernel_rfl) (by kernel_rfl) (by kernel_rfl) (noPanic_q _ _) (Or.inr ⟨by kernel_rfl, rfl⟩) hHeld ?_
    refine wpAnyH_take (i := 6) (v := undef) rfl (by kernel_rfl) (by kernel_rfl) (by kernel_rfl) (noPanic_q _ _) (Or.inr ⟨by kernel_rfl, rfl⟩) hHeld ?_
    refine wpAnyH_take (i := 7) (v := .bool true) rfl (by kernel_rfl) (by kernel_rfl) (by kernel_rfl) (noPanic_q _ _) (Or.inl ⟨by kernel_rfl, fun W hSw => by obtain ⟨h1, h2, h3⟩ := hSw; go_simp⟩) hHeld ?_
    refine wpAnyH_take (i := 8) (v := .bool true) rfl (by kernel_rfl) (by kernel_rfl) (by kernel_rfl) (noPanic_q _ _) (Or.inl ⟨by kernel_rfl, fun W hSw => by obtain ⟨h1, h2, h3⟩ := hSw; go_simp⟩) hHeld ?_
    refine wpAnyH_take (i := 9) (v := undef) rfl (by kernel_rfl) (by kernel_rfl) (by kernel_rfl) (noPanic_q _ _) (Or.inr ⟨by kernel_rfl, rfl⟩) hHeld ?_
    refine wpAnyH_take (i := 10) (v := undef) rfl (by kernel_rfl) (by kernel_rfl) (by kernel_rfl) (noPanic_q _ _) (Or.inr ⟨by kernel_rfl, rfl⟩) hHeld ?_
    refine wpAnyH_take (i := 11) (v := undef) rfl (by kernel_rfl) (by kernel_rfl) (by kernel_rfl) (noPanic_q _ _) (Or.inr ⟨by kernel_rfl, rfl⟩) hHeld ?_
    refine wpAnyH_take (i := 12) (v := .bool true) rfl (by kernel_rfl) (by kernel_rfl) (by kernel_rfl) (noPanic_q _ _) (Or.inl ⟨by kernel_rfl, fun W hSw => by obtain ⟨h1, h2, h3⟩ := hSw; go_simp⟩) hHeld ?_

    have a0 := (SD.out.blk 1 rfl).cell 0
    have a1 := (SD.out.blk 1 rfl).cell 1
    have a2 := (SD.out.blk 1 rfl).cell 2
    have az := (SD.out.blk 1 rfl).lt
    have f0 := (SD.out.blk 1 rfl).frozen 0
    have f1 := (SD.out.blk 1 rfl).frozen 1
    have f2 := (SD.out.blk 1 rfl).frozen 2
    have S9 := Lib.hid (((SD.out.set 1 rfl 0 (.bool true)).set 1 rfl 1 (.int .i64 d)).set 1 rfl 2 (.slice none 0 0))
    refine wpAnyH_ready (rs := [13]) (by kernel_rfl) (by simp) (AllReadyH.cons rfl (fun K hK => ?_) AllReadyH.nil)
    go_simp
    have c0 := (S9.out.blk 0 rfl).cell 0
    have c1 := (S9.out.blk 0 rfl).cell 1
    have c2 := (S9.out.blk 0 rfl).cell 2
    refine hK.out _ _ ⟨c0, c1, c2⟩ (fun hHeld => ?_)
    clear hK
    refine wpAnyH_take (i := 14) (v := .bool true) rfl (by kernel_rfl) (by kernel_rfl) (by kernel_rfl) (noPanic_q _ _) (Or.inl ⟨by kernel_rfl, fun W hSw => by obtain ⟨h1, h2, h3⟩ := hSw; go_simp⟩) hHeld ?_
    refine wpAnyH_done (by kernel_rfl) ?_ _
    refine noPanic_mk ?_
    have x0 := (S9.out.blk 1 rfl).cell 0
    have x1 := (S9.out.blk 1 rfl).cell 1
    have x2 := (S9.out.blk 1 rfl).cell 2
    go_wp2
    exact bodyPost_ret (v := .tuple #[.agg #[.bool true, .int .i64 d, .slice none 0 0], .bool true]) (by simp [results, Try.results14, go_sem, x0, x1, x2, Try.sizeOf38, Try.isAgg38]) rfl ⟨true, d, by rw [HD.out], S9.out.ext, HA.out⟩
  | false =>

    cases h0 : hasD M 0 with
    | false =>
      have HD : Hid ((false || !hasD M 0 || !hasD M 1) = true) := by rw [h0]; rfl
      have HC0 := HOF.out 0
      rw [h0] at HC0
      have H0 := Lib.hid HC0
      clear HC0 h0 HOF
      refine wp_region_noPanic ?_
      refine wp_region_held_drew (S := fun w' => w'.cell? ⟨w1.heap.size, 0, none⟩ = some (.bool false) ∧ w'.cell? ⟨w1.heap.size, 1, none⟩ = some (.int .i64 d) ∧ w'.cell? ⟨w1.heap.size, 2, none⟩ = some (.slice none 0 0)) (by kernel_rfl) ⟨b0, b1, b2⟩ (fun hHeld => ?_)
      have SD := Lib.hid S4.out.drew
      clear b0 b1 b2 bz S4
      generalize X.drew = D at SD hHeld ⊢
      refine wpAnyH_take (i := 0) (v := .agg #[.bool false, .int .i64 d, .slice none 0 0]) rfl (by kernel_rfl) (by kernel_rfl) (by kernel_rfl) (noPanic_q _ _) (Or.inl ⟨by kernel_rfl, fun W hSw => by obtain ⟨h1, h2, h3⟩ := hSw; go_simp⟩) hHeld ?_
      refine wpAnyH_take (i := 1) (v := .pointer (some ⟨w1.heap.size, 0, none⟩)) rfl (by kernel_rfl) (by kernel_rfl) (by kernel_rfl) (noPanic_q _ _) (Or.inl ⟨by kernel_rfl, fun W hSw => by obtain ⟨h1, h2, h3⟩ := hSw; go_simp⟩) hHeld ?_
      refine wpAnyH_take (i := 2) (v := .bool false) rfl (by kernel_rfl) (by kernel_rfl) (by kernel_rfl) (noPanic_q _ _) (Or.inl ⟨by kernel_rfl, fun W hSw => by obtain ⟨h1, h2, h3⟩ := hSw; go_simp⟩) hHeld ?_
      refine wpAnyH_take (i := 3) (v := .bool false) rfl (by kernel_rfl) (by kernel_rfl) (by kernel_rfl) (noPanic_q _ _) (Or.inl ⟨by kernel_rfl, fun W hSw => by obtain ⟨h1, h2, h3⟩ := hSw; go_simp⟩) hHeld ?_
      refine wpAnyH_take (i := 4) (v := .func (.func 27) #[] #[.pointer (some ⟨w.heap.size + 1, 0, none⟩)]) rfl (by kernel_rfl) (by kernel_rfl) (by kernel_rfl) (noPanic_q _ _) (Or.inl ⟨by kernel_rfl, fun W hSw => by obtain ⟨h1, h2, h3⟩ := hSw; go_simp⟩) hHeld ?_
      refine wpAnyH_ready (rs := [5]) (by kernel_rfl) (by simp) (AllReadyH.cons rfl (fun K hK => ?_) AllReadyH.nil)
      go_simp
      refine (H0.out _ SD.out.ext (SD.out.blk 2 rfl)).mono ?_
      rintro e w5 ⟨rfl, hx⟩
      have S5 := Lib.hid (SD.out.call hx)
      clear hx
      have c0 := (S5.out.blk 0 rfl).cell 0
      have c1 := (S5.out.blk 0 rfl).cell 1
      have c2 := (S5.out.blk 0 rfl).cell 2
      refine hK.out _ _ ⟨c0, c1, c2⟩ (fun hHeld => ?_)
      clear hK c0 c1 c2
      refine wpAnyH_take (i := 6) (v := .bool true) rfl (by kernel_rfl) (by kernel_rfl) (by kernel_rfl) (noPanic_q _ _) (Or.inl ⟨by kernel_rfl, fun W hSw => by obtain ⟨h1, h2, h3⟩ := hSw; go_simp⟩) hHeld ?_
      refine wpAnyH_take (i := 7) (v := .bool true) rfl (by kernel_rfl) (by kernel_rfl) (by kernel_rfl) (noPanic_q _ _) (Or.inl ⟨by kernel_rfl, fun W hSw => by obtain ⟨h1, h2, h3⟩ := hSw; go_simp⟩) hHeld ?_
      refine wpAnyH_take (i := 8) (v := .bool true) rfl (by kernel_rfl) (by kernel_rfl) (by kernel_rfl) (noPanic_q _ _) (Or.inl ⟨by kernel_rfl, fun W hSw => by obtain ⟨h1, h2, h3⟩ := hSw; go_simp⟩) hHeld ?_
      refine wpAnyH_take (i := 9) (v := undef) rfl (by kernel_rfl) (by kernel_rfl) (by kernel_rfl) (noPanic_q _ _) (Or.inr ⟨by kernel_rfl, rfl⟩) hHeld ?_
      refine wpAnyH_take (i := 10) (v := undef) rfl (by kernel_rfl) (by kernel_rfl) (by kernel_rfl) (noPanic_q _ _) (Or.inr ⟨by kernel_rfl, rfl⟩) hHeld ?_
      refine wpAnyH_take (i := 11) (v := undef) rfl (by kernel_rfl) (by kernel_rfl) (by kernel_rfl) (noPanic_q _ _) (Or.inr ⟨by kernel_rfl, rfl⟩) hHeld ?_
      refine wpAnyH_take (i := 12) (v := .bool true) rfl (by kernel_rfl) (by kernel_rfl) (by kernel_rfl) (noPanic_q _ _) (Or.inl ⟨by kernel_rfl, fun W hSw => by obtain ⟨h1, h2, h3⟩ := hSw; go_simp⟩) hHeld ?_
      have a0 := (S5.out.blk 1 rfl).cell 0
      have a1 := (S5.out.blk 1 rfl).cell 1
      have a2 := (S5.out.blk 1 rfl).cell 2
      have az := (S5.out.blk 1 rfl).lt
      have f0 := (S5.out.blk 1 rfl).frozen 0
      have f1 := (S5.out.blk 1 rfl).frozen 1
      have f2 := (S5.out.blk 1 rfl).frozen 2
      have S9 := Lib.hid (((S5.out.set 1 rfl 0 (.bool false)).set 1 rfl 1 (.int .i64 d)).set 1 rfl 2 (.slice none 0 0))
      refine wpAnyH_ready (rs := [13]) (by kernel_rfl) (by simp) (AllReadyH.cons rfl (fun K hK => ?_) AllReadyH.nil)
      go_simp
      have c0 := (S9.out.blk 0 rfl).cell 0
      have c1 := (S9.out.blk 0 rfl).cell 1
      have c2 := (S9.out.blk 0 rfl).cell 2
      refine hK.out _ _ ⟨c0, c1, c2⟩ (fun hHeld => ?_)
      clear hK
      refine wpAnyH_take (i := 14) (v := .bool true) rfl (by kernel_rfl) (by kernel_rfl) (by kernel_rfl) (noPanic_q _ _) (Or.inl ⟨by kernel_rfl, fun W hSw => by obtain ⟨h1, h2, h3⟩ := hSw; go_simp⟩) hHeld ?_
      refine wpAnyH_done (by kernel_rfl) ?_ _
      refine noPanic_mk ?_
      have x0 := (S9.out.blk 1 rfl).cell 0
      have x1 := (S9.out.blk 1 rfl).cell 1
      have x2 := (S9.out.blk 1 rfl).cell 2
      go_wp2
      exact bodyPost_ret (v := .tuple #[.agg #[.bool false, .int .i64 d, .slice none 0 0], .bool true]) (by simp [results, Try.results14, go_sem, x0, x1, x2, Try.sizeOf38, Try.isAgg38]) rfl ⟨false, d, by rw [HD.out], S9.out.ext, HA.out⟩
    | true =>
      have HC0 := HOF.out 0
      rw [h0] at HC0
      have H0 := Lib.hid HC0
      clear HC0
      cases h1 : hasD M 1 with
      | false =>
        have HD : Hid ((false || !hasD M 0 || !hasD M 1) = true) := by unfold Hid; rw [h1]; simp
        have HC1 := HOF.out 1
        rw [h1] at HC1
        have H1 := Lib.hid HC1
        clear HC1 h0 h1 HOF
        refine wp_region_noPanic ?_
        refine wp_region_held_drew (S := fun w' => w'.cell? ⟨w1.heap.size, 0, none⟩ = some (.bool false) ∧ w'.cell? ⟨w1.heap.size, 1, none⟩ = some (.int .i64 d) ∧ w'.cell? ⟨w1.heap.size, 2, none⟩ = some (.slice none 0 0)) (by kernel_rfl) ⟨b0, b1, b2⟩ (fun hHeld => ?_)
        have SD := Lib.hid S4.out.drew
        clear b0 b1 b2 bz S4
        generalize X.drew = D at SD hHeld ⊢
        refine wpAnyH_take (i := 0) (v := .agg #[.bool false, .int .i64 d, .slice none 0 0]) rfl (by kernel_rfl) (by kernel_rfl) (by kernel_rfl) (noPanic_q _ _) (Or.inl ⟨by kernel_rfl, fun W hSw => by obtain ⟨h1, h2, h3⟩ := hSw; go_simp⟩) hHeld ?_
        refine wpAnyH_take (i := 1) (v := .pointer (some ⟨w1.heap.size, 0, none⟩)) rfl (by kernel_rfl) (by kernel_rfl) (by kernel_rfl) (noPanic_q _ _) (Or.inl ⟨by kernel_rfl, fun W hSw => by obtain ⟨h1, h2, h3⟩ := hSw; go_simp⟩) hHeld ?_
        refine wpAnyH_take (i := 2) (v := .bool false) rfl (by kernel_rfl) (by kernel_rfl) (by kernel_rfl) (noPanic_q _ _) (Or.inl ⟨by kernel_rfl, fun W hSw => by obtain ⟨h1, h2, h3⟩ := hSw; go_simp⟩) hHeld ?_
        refine wpAnyH_take (i := 3) (v := .bool false) rfl (by kernel_rfl) (by kernel_rfl) (by kernel_rfl) (noPanic_q _ _) (Or.inl ⟨by kernel_rfl, fun W hSw => by obtain ⟨h1, h2, h3⟩ := hSw; go_simp⟩) hHeld ?_
        refine wpAnyH_take (i := 4) (v := .func (.func 27) #[] #[.pointer (some ⟨w.heap.size + 1, 0, none⟩)]) rfl (by kernel_rfl) (by kernel_rfl) (by kernel_rfl) (noPanic_q _ _) (Or.inl ⟨by kernel_rfl, fun W hSw => by obtain ⟨h1, h2, h3⟩ := hSw; go_simp⟩) hHeld ?_
        refine wpAnyH_ready (rs := [5]) (by kernel_rfl) (by simp) (AllReadyH.cons rfl (fun K hK => ?_) AllReadyH.nil)
        go_simp
        refine (H0.out _ SD.out.ext (SD.out.blk 2 rfl)).mono ?_
        rintro e w5 ⟨rfl, hx⟩
        have S5 := Lib.hid (SD.out.call hx)
        clear hx
        have c0 := (S5.out.blk 0 rfl).cell 0
        have c1 := (S5.out.blk 0 rfl).cell 1
        have c2 := (S5.out.blk 0 rfl).cell 2
        refine hK.out _ _ ⟨c0, c1, c2⟩ (fun hHeld => ?_)
        clear hK c0 c1 c2
        refine wpAnyH_take (i := 6) (v := .bool false) rfl (by kernel_rfl) (by kernel_rfl) (by kernel_rfl) (noPanic_q _ _) (Or.inl ⟨by kernel_rfl, fun W hSw => by obtain ⟨h1, h2, h3⟩ := hSw; go_simp⟩) hHeld ?_
        refine wpAnyH_take (i := 7) (v := .bool false) rfl (by kernel_rfl) (by kernel_rfl) (by kernel_rfl) (noPanic_q _ _) (Or.inl ⟨by kernel_rfl, fun W hSw => by obtain ⟨h1, h2, h3⟩ := hSw; go_simp⟩) hHeld ?_
        refine wpAnyH_take (i := 8) (v := .bool false) rfl (by kernel_rfl) (by kernel_rfl) (by kernel_rfl) (noPanic_q _ _) (Or.inl ⟨by kernel_rfl, fun W hSw => by obtain ⟨h1, h2, h3⟩ := hSw; go_simp⟩) hHeld ?_
        refine wpAnyH_take (i := 9) (v := .func (.func 27) #[] #[.pointer (some ⟨w.heap.size + 1, 0, none⟩)]) rfl (by kernel_rfl) (by kernel_rfl) (by kernel_rfl) (noPanic_q _ _) (Or.inl ⟨by kernel_rfl, fun W hSw => by obtain ⟨h1, h2, h3⟩ := hSw; go_simp⟩) hHeld ?_
        refine wpAnyH_ready (rs := [10]) (by kernel_rfl) (by simp) (AllReadyH.cons rfl (fun K hK => ?_) AllReadyH.nil)
        go_simp
        refine (H1.out _ S5.out.ext (S5.out.blk 2 rfl)).mono ?_
        rintro e w6 ⟨rfl, hx⟩
        have S6 := Lib.hid (S5.out.call hx)
        clear hx
        have c0 := (S6.out.blk 0 rfl).cell 0
        have c1 := (S6.out.blk 0 rfl).cell 1
        have c2 := (S6.out.blk 0 rfl).cell 2
        refine hK.out _ _ ⟨c0, c1, c2⟩ (fun hHeld => ?_)
        clear hK c0 c1 c2
        refine wpAnyH_take (i := 11) (v := .bool true) rfl (by kernel_rfl) (by kernel_rfl) (by kernel_rfl) (noPanic_q _ _) (Or.inl ⟨by kernel_rfl, fun W hSw => by obtain ⟨h1, h2, h3⟩ := hSw; go_simp⟩) hHeld ?_
        refine wpAnyH_take (i := 12) (v := .bool true) rfl (by kernel_rfl) (by kernel_rfl) (by kernel_rfl) (noPanic_q _ _) (Or.inl ⟨by kernel_rfl, fun W hSw => by obtain ⟨h1, h2, h3⟩ := hSw; go_simp⟩) hHeld ?_
        have a0 := (S6.out.blk 1 rfl).cell 0
        have a1 := (S6.out.blk 1 rfl).cell 1
        have a2 := (S6.out.blk 1 rfl).cell 2
        have az := (S6.out.blk 1 rfl).lt
        have f0 := (S6.out.blk 1 rfl).frozen 0
        have f1 := (S6.out.blk 1 rfl).frozen 1
        have f2 := (S6.out.blk 1 rfl).frozen 2
        have S9 := Lib.hid (((S6.out.set 1 rfl 0 (.bool false)).set 1 rfl 1 (.int .i64 d)).set 1 rfl 2 (.slice none 0 0))
        refine wpAnyH_ready (rs := [13]) (by kernel_rfl) (by simp) (AllReadyH.cons rfl (fun K hK => ?_) AllReadyH.nil)
        go_simp
        have c0 := (S9.out.blk 0 rfl).cell 0
        have c1 := (S9.out.blk 0 rfl).cell 1
        have c2 := (S9.out.blk 0 rfl).cell 2
        refine hK.out _ _ ⟨c0, c1, c2⟩ (fun hHeld => ?_)
        clear hK
        refine wpAnyH_take (i := 14) (v := .bool true) rfl (by kernel_rfl) (by kernel_rfl) (by kernel_rfl) (noPanic_q _ _) (Or.inl ⟨by kernel_rfl, fun W hSw => by obtain ⟨h1, h2, h3⟩ := hSw; go_simp⟩) hHeld ?_
        refine wpAnyH_done (by kernel_rfl) ?_ _
        refine noPanic_mk ?_
        have x0 := (S9.out.blk 1 rfl).cell 0
        have x1 := (S9.out.blk 1 rfl).cell 1
        have x2 := (S9.out.blk 1 rfl).cell 2
        go_wp2
        exact bodyPost_ret (v := .tuple #[.agg #[.bool false, .int .i64 d, .slice none 0 0], .bool true]) (by simp [results, Try.results14, go_sem, x0, x1, x2, Try.sizeOf38, Try.isAgg38]) rfl ⟨false, d, by rw [HD.out], S9.out.ext, HA.out⟩
      | true =>
        have HD : Hid ((false || !hasD M 0 || !hasD M 1) = false) := by rw [h0, h1]; rfl
        have HC1 := HOF.out 1
        rw [h1] at HC1
        have H1 := Lib.hid HC1
        clear HC1 h0 h1 HOF
        refine wp_region_noPanic ?_
        refine wp_region_held_drew (S := fun w' => w'.cell? ⟨w1.heap.size, 0, none⟩ = some (.bool false) ∧ w'.cell? ⟨w1.heap.size, 1, none⟩ = some (.int .i64 d) ∧ w'.cell? ⟨w1.heap.size, 2, none⟩ = some (.slice none 0 0)) (by kernel_rfl) ⟨b0, b1, b2⟩ (fun hHeld => ?_)
        have SD := Lib.hid S4.out.drew
        clear b0 b1 b2 bz S4
        generalize X.drew = D at SD hHeld ⊢
        refine wpAnyH_take (i := 0) (v := .agg #[.bool false, .int .i64 d, .slice none 0 0]) rfl (by kernel_rfl) (by kernel_rfl) (by kernel_rfl) (noPanic_q _ _) (Or.inl ⟨by kernel_rfl, fun W hSw => by obtain ⟨h1, h2, h3⟩ := hSw; go_simp⟩) hHeld ?_
        refine wpAnyH_take (i := 1) (v := .pointer (some ⟨w1.heap.size, 0, none⟩)) rfl (by kernel_rfl) (by kernel_rfl) (by kernel_rfl) (noPanic_q _ _) (Or.inl ⟨by kernel_rfl, fun W hSw => by obtain ⟨h1, h2, h3⟩ := hSw; go_simp⟩) hHeld ?_
        refine wpAnyH_take (i := 2) (v := .bool false) rfl (by kernel_rfl) (by kernel_rfl) (by kernel_rfl) (noPanic_q _ _) (Or.inl ⟨by kernel_rfl, fun W hSw => by obtain ⟨h1, h2, h3⟩ := hSw; go_simp⟩) hHeld ?_
        refine wpAnyH_take (i := 3) (v := .bool false) rfl (by kernel_rfl) (by kernel_rfl) (by kernel_rfl) (noPanic_q _ _) (Or.inl ⟨by kernel_rfl, fun W hSw => by obtain ⟨h1, h2, h3⟩ := hSw; go_simp⟩) hHeld ?_
        refine wpAnyH_take (i := 4) (v := .func (.func 27) #[] #[.pointer (some ⟨w.heap.size + 1, 0, none⟩)]) rfl (by kernel_rfl) (by kernel_rfl) (by kernel_rfl) (noPanic_q _ _) (Or.inl ⟨by kernel_rfl, fun W hSw => by obtain ⟨h1, h2, h3⟩ := hSw; go_simp⟩) hHeld ?_
        refine wpAnyH_ready (rs := [5]) (by kernel_rfl) (by simp) (AllReadyH.cons rfl (fun K hK => ?_) AllReadyH.nil)
        go_simp
        refine (H0.out _ SD.out.ext (SD.out.blk 2 rfl)).mono ?_
        rintro e w5 ⟨rfl, hx⟩
        have S5 := Lib.hid (SD.out.call hx)
        clear hx
        have c0 := (S5.out.blk 0 rfl).cell 0
        have c1 := (S5.out.blk 0 rfl).cell 1
        have c2 := (S5.out.blk 0 rfl).cell 2
        refine hK.out _ _ ⟨c0, c1, c2⟩ (fun hHeld => ?_)
        clear hK c0 c1 c2
        refine wpAnyH_take (i := 6) (v := .bool false) rfl (by kernel_rfl) (by kernel_rfl) (by kernel_rfl) (noPanic_q _ _) (Or.inl ⟨by kernel_rfl, fun W hSw => by obtain ⟨h1, h2, h3⟩ := hSw; go_simp⟩) hHeld ?_
        refine wpAnyH_take (i := 7) (v := .bool false) rfl (by kernel_rfl) (by kernel_rfl) (by kernel_rfl) (noPanic_q _ _) (Or.inl ⟨by kernel_rfl, fun W hSw => by obtain ⟨h1, h2, h3⟩ := hSw; go_simp⟩) hHeld ?_
        refine wpAnyH_take (i := 8) (v := .bool false) rfl (by kernel_rfl) (by kernel_rfl) (by kernel_rfl) (noPanic_q _ _) (Or.inl ⟨by kernel_rfl, fun W hSw => by obtain ⟨h1, h2, h3⟩ := hSw; go_simp⟩) hHeld ?_
        refine wpAnyH_take (i := 9) (v := .func (.func 27) #[] #[.pointer (some ⟨w.heap.size + 1, 0, none⟩)]) rfl (by kernel_rfl) (by kernel_rfl) (by kernel_rfl) (noPanic_q _ _) (Or.inl ⟨by kernel_rfl, fun W hSw => by obtain ⟨h1, h2, h3⟩ := hSw; go_simp⟩) hHeld ?_
        refine wpAnyH_ready (rs := [10]) (by kernel_rfl) (by simp) (AllReadyH.cons rfl (fun K hK => ?_) AllReadyH.nil)
        go_simp
        refine (H1.out _ S5.out.ext (S5.out.blk 2 rfl)).mono ?_
        rintro e w6 ⟨rfl, hx⟩
        have S6 := Lib.hid (S5.out.call hx)
        clear hx
        have c0 := (S6.out.blk 0 rfl).cell 0
        have c1 := (S6.out.blk 0 rfl).cell 1
        have c2 := (S6.out.blk 0 rfl).cell 2
        refine hK.out _ _ ⟨c0, c1, c2⟩ (fun hHeld => ?_)
        clear hK c0 c1 c2
        refine wpAnyH_take (i := 11) (v := .bool false) rfl (by kernel_rfl) (by kernel_rfl) (by kernel_rfl) (noPanic_q _ _) (Or.inl ⟨by kernel_rfl, fun W hSw => by obtain ⟨h1, h2, h3⟩ := hSw; go_simp⟩) hHeld ?_
        refine wpAnyH_take (i := 12) (v := .bool false) rfl (by kernel_rfl) (by kernel_rfl) (by kernel_rfl) (noPanic_q _ _) (Or.inl ⟨by kernel_rfl, fun W hSw => by obtain ⟨h1, h2, h3⟩ := hSw; go_simp⟩) hHeld ?_
        have a0 := (S6.out.blk 1 rfl).cell 0
        have a1 := (S6.out.blk 1 rfl).cell 1
        have a2 := (S6.out.blk 1 rfl).cell 2
        have az := (S6.out.blk 1 rfl).lt
        have f0 := (S6.out.blk 1 rfl).frozen 0
        have f1 := (S6.out.blk 1 rfl).frozen 1
        have f2 := (S6.out.blk 1 rfl).frozen 2
        have S9 := Lib.hid (((S6.out.set 1 rfl 0 (.bool false)).set 1 rfl 1 (.int .i64 d)).set 1 rfl 2 (.slice none 0 0))
        refine wpAnyH_ready (rs := [13]) (by kernel_rfl) (by simp) (AllReadyH.cons rfl (fun K hK => ?_) AllReadyH.nil)
        go_simp
        have c0 := (S9.out.blk 0 rfl).cell 0
        have c1 := (S9.out.blk 0 rfl).cell 1
        have c2 := (S9.out.blk 0 rfl).cell 2
        refine hK.out _ _ ⟨c0, c1, c2⟩ (fun hHeld => ?_)
        clear hK
        refine wpAnyH_take (i := 14) (v := .bool false) rfl (by kernel_rfl) (by kernel_rfl) (by kernel_rfl) (noPanic_q _ _) (Or.inl ⟨by kernel_rfl, fun W hSw => by obtain ⟨h1, h2, h3⟩ := hSw; go_simp⟩) hHeld ?_
        refine wpAnyH_done (by kernel_rfl) ?_ _
        refine noPanic_mk ?_
        have x0 := (S9.out.blk 1 rfl).cell 0
        have x1 := (S9.out.blk 1 rfl).cell 1
        have x2 := (S9.out.blk 1 rfl).cell 2
        go_wp2
        exact bodyPost_ret (v := .tuple #[.agg #[.bool false, .int .i64 d, .slice none 0 0], .bool false]) (by simp [results, Try.results14, go_sem, x0, x1, x2, Try.sizeOf38, Try.isAgg38]) rfl ⟨false, d, by rw [HD.out], S9.out.ext, HA.out⟩
end Go.Proofs.Ytkekibnhmfmhmaa
/- Equal rows, equal edges, rows too big, a row that rises and has a number. -/
namespace Go.Proofs.Ytkekibnhmfmhmaa
open Go Go.RowKit Go.Shelf Go.Lib
/-- rows more than are looked at -/
def bigR (O T R V : List Int) : Bool := decide (30 < O.length) && decide (O.length ≤ 201) || decide (250 < O.length) || decide (250 < R.length) || decide (150 < T.length) && decide (T.length ≤ 2000) || decide (2100 < T.length) || decide (2100 < V.length)
set_option maxHeartbeats 2000000 in
theorem Big04 (po : Option Addr) (no co : Nat) (O : List Int) (pt : Option Addr) (nt ct : Nat) (T : List Int) (pr : Option Addr) (nr cr : Nat) (R : List Int) (pv : Option Addr) (nv cv : Nat) (V : List Int) (w : World) (hO : Rd w 1 po no (encI O)) (hT : Rd w 1 pt nt (encI T)) (hR : Rd w 1 pr nr (encI R)) (hV : Rd w 1 pv nv (encI V)) : Calls Try.prog 16 #[.agg #[.slice po no co, .slice pt nt ct, .slice pr nr cr, .slice pv nv cv]] w fun e w' => e = .returned (.bool (bigR O T R V)) ∧ Ext w w' := by
  have hd : bigR O T R V = (decide (30 < no) && decide (no ≤ 201) || decide (250 < no) || decide (250 < nr) || decide (150 < nt) && decide (nt ≤ 2000) || decide (2100 < nt) || decide (2100 < nv)) := by
    unfold bigR; rw [hO.nI, hT.nI, hR.nI, hV.nI]
  rw [hd]
  clear hd hO hT hR hV
  go_enter Try.func16, Try.ntmps16
  go_wp2
  all_goals (go_ret; refine ⟨ret_bool ?_, Ext.alloc (Below.refl _ _) _⟩; rw [Bool.eq_iff_iff]; simp only [Bool.or_eq_true, Bool.and_eq_true, decide_eq_true_eq, true_iff]; omega)
end Go.Proofs.Ytkekibnhmfmhmaa
/- Chapter 16 (reference): rows of messages that are the same. -/
namespace Go.Proofs.Ytkekibnhmfmhmaa
open Go Go.RowKit
theorem eqMl (a b c d : Int) (w : World) : (binOp .eql 57 (.agg #[.int .i64 a, .int .i64 b, .int .i64 c, .int .i64 d]) (.agg #[.int .i64 a, .int .i64 b, .int .i64 c, .int .i64 d])).run Try.prog w = .ok (.bool true) w := by
  have u3 := Try.underlying3
  have a3 := Try.isAgg3
  have z3 := Try.sizeOf3
  have uk := Try.underlying44
  have ak := Try.isAgg44
  have zk := Try.sizeOf44
  have hS : Try.prog.underlying 57 = some (.struct (Try.prog.fieldsOf 57)) := by kernel_rfl
  have hp : Try.prog.stoodInHeld 57 = false := by kernel_rfl
  have hS2 : Try.prog.underlying 44 = some (.struct (Try.prog.fieldsOf 44)) := by kernel_rfl
  have hp2 : Try.prog.stoodInHeld 44 = false := by kernel_rfl
  have hk : (Op.equalIn 9999 44 (.agg #[.int .i64 a, .int .i64 b, .int .i64 c]) (.agg #[.int .i64 a, .int .i64 b, .int .i64 c])).run Try.prog w = .ok true w := by
    rw [show (9999 : Nat) = 9998 + 1 from rfl, run_equalIn_agg w 9998 44 _ _ hS2 hp2]
    simp only [Program.fieldsOf, Try.underlying44]
    go_simp
  rw [run_eql_struct, show (10000 : Nat) = 9999 + 1 from rfl, run_equalIn_agg w 9999 57 _ _ hS hp]
  simp only [Program.fieldsOf, Try.underlying57]
  go_simp
theorem neqMl (a b c d : Int) (w : World) : (binOp .neq 57 (.agg #[.int .i64 a, .int .i64 b, .int .i64 c, .int .i64 d]) (.agg #[.int .i64 a, .int .i64 b, .int .i64 c, .int .i64 d])).run Try.prog w = .ok (.bool false) w := by
  have h := eqMl a b c d w
  rw [run_eql_struct] at h
  rw [run_neq_struct]
  generalize (Op.equalIn 10000 57 (.agg #[.int .i64 a, .int .i64 b, .int .i64 c, .int .i64 d]) (.agg #[.int .i64 a, .int .i64 b, .int .i64 c, .int .i64 d])).run Try.prog w = r at h ⊢
  cases r with
  | ok x w1 => simp only [Result.andThen_ok, Result.ok.injEq, Value.bool.injEq] at h ⊢; rw [h.1, h.2]; simp
  | halt x w1 => simp [Result.andThen] at h
theorem guardMl (op : BinOp) (x y : Operand) (xs ys : Array Value) (w : World) : (eqGuard op 57 x y (.agg xs) (.agg ys)).run Try.prog w = .ok () w := run_eqGuard_agg w op 57 x y xs ys (by kernel_rfl)
attribute [local go_sem ↓] eqMl neqMl guardMl
set_option maxRecDepth 100000 in
set_option maxHeartbeats 4000000 in
theorem SameQ (p q : Option Addr) (n m c d : Nat) (E : List Sq) (w : World) (h1 : Rd w 4 p n (encQ E)) (h2 : Rd w 4 q m (encQ E)) :
    Calls Try.prog 23 #[.slice p n c, .slice q m d] w fun e w' => e = .returned (.bool true) ∧ Ext w w' := by
  obtain rfl : n = m := by rw [h1.nQ, h2.nQ]
  have p1 := h1.ptr
  have p2 := h2.ptr
  have n1 := h1.small
  have H1 := Lib.hid h1; clear h1
  have H2 := Lib.hid h2; clear h2
  go_enter Try.func23, Try.ntmps23
  go_wp2
  go_loopw [5] (fun i wr => ∃ k : Nat, k ≤ n ∧ i = .int .i64 k ∧ Ext w wr) (fun i _ => n - (intOf i).toNat)
  case atStart => exact ⟨0, Nat.zero_le _, rfl, Below.refl _ _⟩
  case round =>
    obtain ⟨k, hk, rfl, hE⟩ := hrel
    by_cases hlt : k < n
    · obtain ⟨g1, g2, g3, g4⟩ := (H1.out.ext hE).cQ hlt
      obtain ⟨e1, e2, e3, e4⟩ := (H2.out.ext hE).cQ hlt
      have d1 : (0:Int) ≤ k := by omega
      have d2 : (k:Int) < n := by omega
      have HE := Lib.hid hE; clear hE
      generalize nth E k = x at *
      go_wp2
      go_quiet (fail)
      go_wp2
      go_roundw
      case rel => exact ⟨k + 1, by omega, by go_num, HE.out.drewN _⟩
      case measure => simp [intOf]; omega
    · have HE := Lib.hid hE; clear hE
      go_wp2
      go_ret
      exact ⟨rfl, HE.out⟩
end Go.Proofs.Ytkekibnhmfmhmaa
/- Chapter 18: the document's example. -/
namespace Go.Proofs.Ytkekibnhmfmhmaa
open Go Go.RowKit
theorem meetEx : MeetA [⟨0, 0, 1, 2⟩, ⟨0, 1, 1, 1⟩] true 3 := by
  refine ⟨fun h => (by cases h), fun _ => ⟨⟨⟨0, 0, 1, 2⟩, by simp, ⟨0, 1, 1, 1⟩, by simp, rfl, rfl, rfl, rfl⟩, ?_⟩⟩
  rintro s ⟨x, hx, y, hy, h1, h2, h3, rfl⟩
  simp only [List.mem_cons, List.not_mem_nil, or_false] at hx hy
  rcases hx with rfl | rfl <;> rcases hy with rfl | rfl <;> first | (exact Int.le_refl _) | (exact absurd h1 (by decide)) | (exact absurd h2 (by decide))
theorem chkEx : chkQ 1 2 5 [] 0 0 6 = 0 ∧ chkQ 1 2 5 [] 0 0 5 = 180 := by decide +kernel
theorem startEx : startQ 1 2 5 4 = [⟨4, 0, 2, 0⟩, ⟨4, 1, 5, 0⟩] ∧ startQ 3 2 0 4 = [⟨4, 0, 2, 0⟩] := by decide +kernel
theorem st1 (w : World) : Calls Try.prog 10 #[.agg #[.int .i64 1, .int .i64 2, .int .i64 5, .slice none 0 0, .int .i64 0, .int .i64 0], .int .i64 4] w fun e w' => ∃ q c, e = .returned (.slice q 2 c) ∧ Sep w w' [.own 57 4 q 2 c (encQ [⟨4, 0, 2, 0⟩, ⟨4, 1, 5, 0⟩])] := by
  have := StartQ 1 2 5 none 0 0 0 0 4 w
  rw [startEx.1] at this
  exact this
theorem st3 (w : World) : Calls Try.prog 10 #[.agg #[.int .i64 3, .int .i64 2, .int .i64 0, .slice none 0 0, .int .i64 0, .int .i64 0], .int .i64 4] w fun e w' => ∃ q c, e = .returned (.slice q 1 c) ∧ Sep w w' [.own 57 4 q 1 c (encQ [⟨4, 0, 2, 0⟩])] := by
  have := StartQ 3 2 0 none 0 0 0 0 4 w
  rw [startEx.2] at this
  exact this
theorem ck6 (w : World) : Calls Try.prog 8 #[.agg #[.int .i64 1, .int .i64 2, .int .i64 5, .slice none 0 0, .int .i64 0, .int .i64 0], .int .i64 6] w fun e w' => e = .returned (.int .i64 0) ∧ Ext w w' := by
  have := CheckQ 1 2 5 none 0 0 [] 0 0 6 w (Rd.nil _ _ _) (fun s h => by cases h)
  rw [chkEx.1] at this
  exact this
theorem ck5 (w : World) : Calls Try.prog 8 #[.agg #[.int .i64 1, .int .i64 2, .int .i64 5, .slice none 0 0, .int .i64 0, .int .i64 0], .int .i64 5] w fun e w' => e = .returned (.int .i64 180) ∧ Ext w w' := by
  have := CheckQ 1 2 5 none 0 0 [] 0 0 5 w (Rd.nil _ _ _) (fun s h => by cases h)
  rw [chkEx.2] at this
  exact this
theorem done1 (p : Option Addr) (c : Nat) (w : World) (hl : Rd w 4 p 2 (encQ [⟨0, 0, 1, 2⟩, ⟨0, 1, 1, 1⟩])) : Calls Try.prog 14 #[.agg #[.int .i64 1, .int .i64 2, .int .i64 5, .slice none 0 0, .int .i64 0, .int .i64 0], .slice none 0 0, .slice p 2 c, .slice none 0 0] w fun e w' => e = .returned (.tuple #[.agg #[.bool true, .int .i64 3, .slice none 0 0], .bool true]) ∧ Ext w w' := by
  refine (Done1 2 5 none 0 0 0 0 none 0 0 p 2 c _ none 0 0 [] w hl (Rd.nil _ _ _) (fun x hx => ?_) (fun x hx => ?_) (by omega)).mono ?_
  · simp only [List.mem_cons, List.not_mem_nil, or_false] at hx
    rcases hx with rfl | rfl <;> (unfold I64; decide)
  · simp only [List.mem_cons, List.not_mem_nil, or_false] at hx
    rcases hx with rfl | rfl <;> decide
  · rintro e w' ⟨b, d, rfl, hE, hA⟩
    obtain ⟨rfl, rfl⟩ := meetA_uniq hA meetEx
    exact ⟨rfl, hE⟩
theorem rd1 {w : World} {q : Option Addr} (h : Rd w 4 q 2 (encQ [⟨4, 0, 2, 0⟩, ⟨4, 1, 5, 0⟩])) : Rd w 4 q 1 (encQ [⟨4, 0, 2, 0⟩]) := h.take (k := 1) (by omega)
set_option maxRecDepth 100000 in
set_option maxHeartbeats 4000000 in
theorem ProgsG (w : World) : Calls Try.prog 9 #[] w fun e w' => e = .returned (.bool true) ∧ Ext w w' := by
  have S0 := Lib.hid ((Sep.start w).al #[.int .i64 1, .int .i64 2, .int .i64 5, .slice none 0 0, .int .i64 0, .int .i64 0] 24 w.heap.size rfl)
  go_enter Try.func9, Try.ntmps9
  go_wp2_with (first | (go_at_call 8; have _t := S8; go_must ((with_reducible refine (ck5 _).mono ?_); rintro e w8 ⟨rfl, T⟩; have S9 := Lib.hid (S8.out.call T); clear a0 a1 a2 a3 a4 a5 az; have r0 := (S9.out.blk 0 rfl).cell 0; have r1 := (S9.out.blk 0 rfl).cell 1; have rz := (S9.out.blk 0 rfl).lt; clear T)) | (go_at_call 8; go_must ((with_reducible refine (ck6 _).mono ?_); rintro e w7 ⟨rfl, T⟩; have S8 := Lib.hid (S7.out.call T); clear a0 a1 a2 a3 a4 a5 az; have a0 := (S8.out.blk 5 rfl).cell 0; have a1 := (S8.out.blk 5 rfl).cell 1; have a2 := (S8.out.blk 5 rfl).cell 2; have a3 := (S8.out.blk 5 rfl).cell 3; have a4 := (S8.out.blk 5 rfl).cell 4; have a5 := (S8.out.blk 5 rfl).cell 5; have az := (S8.out.blk 5 rfl).lt; clear T)) | (go_at_call 23; have _t := S6; go_must ((refine (SameQ _ _ _ _ _ _ [⟨4, 0, 2, 0⟩] _ (S6.out.rdx 3 rfl) (rd1 (S6.out.rdx 2 rfl))).mono ?_); rintro e w6 ⟨rfl, T⟩; have S7 := Lib.hid (S6.out.call T); have a0 := (S7.out.blk 5 rfl).cell 0; have a1 := (S7.out.blk 5 rfl).cell 1; have a2 := (S7.out.blk 5 rfl).cell 2; have a3 := (S7.out.blk 5 rfl).cell 3; have a4 := (S7.out.blk 5 rfl).cell 4; have a5 := (S7.out.blk 5 rfl).cell 5; have az := (S7.out.blk 5 rfl).lt; clear T)) | (go_at_call 23; go_must ((refine (SameQ _ _ _ _ _ _ [⟨4, 0, 2, 0⟩, ⟨4, 1, 5, 0⟩] _ (S5.out.rdx 4 rfl) (S5.out.rdx 2 rfl)).mono ?_); rintro e w5 ⟨rfl, T⟩; have S6 := Lib.hid (S5.out.call T); clear T)) | (go_at_call 14; go_must ((refine (done1 _ _ _ (S3.out.rdx 0 rfl)).mono ?_); rintro e w4 ⟨rfl, T⟩; have S5 := Lib.hid ((S3.out.call T).al #[.bool true, .int .i64 3, .slice none 0 0] 38 w4.heap.size rfl); clear a0 a1 a2 a3 a4 a5 az; clear T)) | (go_at_call 10; have _t := S1; go_must ((with_reducible refine (st3 _).mono ?_); rintro e w2 ⟨q2, c2, rfl, T⟩; have S2 := Lib.hid (S1.out.comp T); clear a0 a1 a2 a3 a4 a5 az; have S3 := Lib.hid ((S2.out.alrw #[.int .i64 4, .int .i64 0, .int .i64 2, .int .i64 0, .int .i64 4, .int .i64 1, .int .i64 5, .int .i64 0] 57 4 2 w2.heap.size rfl (by decide) rfl).alrw #[.int .i64 0, .int .i64 0, .int .i64 1, .int .i64 2, .int .i64 0, .int .i64 1, .int .i64 1, .int .i64 1] 46 4 2 (w2.heap.size + 1) (by simp) (by decide) rfl); have a0 := (S3.out.blk 4 rfl).cell 0; have a1 := (S3.out.blk 4 rfl).cell 1; have a2 := (S3.out.blk 4 rfl).cell 2; have a3 := (S3.out.blk 4 rfl).cell 3; have a4 := (S3.out.blk 4 rfl).cell 4; have a5 := (S3.out.blk 4 rfl).cell 5; have az := (S3.out.blk 4 rfl).lt; clear T)) | (go_at_call 10; go_must ((with_reducible refine (st1 _).mono ?_); rintro e w1 ⟨q1, c1, rfl, T⟩; have S1 := Lib.hid (S0.out.comp T); have a0 := (S1.out.blk 1 rfl).cell 0; have a1 := (S1.out.blk 1 rfl).cell 1; have a2 := (S1.out.blk 1 rfl).cell 2; have a3 := (S1.out.blk 1 rfl).cell 3; have a4 := (S1.out.blk 1 rfl).cell 4; have a5 := (S1.out.blk 1 rfl).cell 5; have az := (S1.out.blk 1 rfl).lt; clear T)))
  go_ret
  exact ⟨rfl, S9.out.ext⟩
end Go.Proofs.Ytkekibnhmfmhmaa
/- Chapter 18: what is not looked at; messages that may be. -/
namespace Go.Proofs.Ytkekibnhmfmhmaa
open Go Go.RowKit
def longQ (s : ByteArray) : Bool := decide (60 < s.size)
def bigQ (ws : List ByteArray) : Bool := (decide (ws.length ≤ 20) && ws.any longQ) || decide (20 < ws.length)
theorem bigQ_no {ws : List ByteArray} (h : bigQ ws = false) : ws.length ≤ 20 ∧ ∀ s ∈ ws, s.size ≤ 60 := by
  unfold bigQ at h
  rw [Bool.or_eq_false_iff, decide_eq_false_iff_not] at h
  have h1 : ws.length ≤ 20 := by omega
  refine ⟨h1, fun s hs => ?_⟩
  have h2 := h.1
  rw [decide_eq_true h1, Bool.true_and] at h2
  have := List.any_eq_false.1 h2 s hs
  simpa [longQ] using this
set_option maxRecDepth 100000 in
set_option maxHeartbeats 2000000 in
theorem BigQ (k f t : Int) (pw : Option Addr) (nw cw : Nat) (ws : List ByteArray) (rad most : Int) (w : World) (hw : Rd w 1 pw nw (encS ws)) :
    Calls Try.prog 7 #[.agg #[.int .i64 k, .int .i64 f, .int .i64 t, .slice pw nw cw, .int .i64 rad, .int .i64 most]] w fun e w' => e = .returned (.bool (bigQ ws)) ∧ Ext w w' := by
  have l1 := hw.nS
  have p1 := hw.ptr
  have n1 := hw.small
  have HE := Lib.hid ((Sep.start w).al #[.int .i64 k, .int .i64 f, .int .i64 t, .slice pw nw cw, .int .i64 rad, .int .i64 most] 24 w.heap.size rfl).ext
  have HW := Lib.hid (hw.ext HE.out)
  have L1 := Lib.hid l1
  clear l1 hw
  by_cases h20 : nw ≤ 20
  · have HB : Hid (bigQ ws = ws.any longQ) := by unfold Hid bigQ; rw [← L1.out, decide_eq_true h20, decide_eq_false (by omega)]; simp
    go_enter Try.func7, Try.ntmps7
    go_wp2
    go_loop [3] (fun i => ∃ j : Nat, j ≤ nw ∧ i = .int .i64 j ∧ (ws.take j).any longQ = false) (fun i => nw - (intOf i).toNat)
    case atStart => exact ⟨0, Nat.zero_le _, rfl, rfl⟩
    case round =>
      obtain ⟨j, hj, rfl, ha⟩ := hrel
      have HA := Lib.hid ha; clear ha
      by_cases hlt : j < nw
      · have g1 := HW.out.cS hlt
        have hjl : j < ws.length := by rw [← L1.out]; exact hlt
        have d1 : (0:Int) ≤ j := by omega
        have d2 : (j:Int) < nw := by omega
        have HTA := Lib.hid (any_true_at longQ ws j hjl)
        have HST := Lib.hid (any_step longQ ws j hjl HA.out)
        clear hjl
        generalize nth ws j = s at *
        by_cases h60 : 60 < s.size
        · have HF := Lib.hid (HTA.out (by unfold longQ; exact decide_eq_true h60))
          clear HTA HST
          go_wp2
          go_ret
          exact ⟨ret_bool (by rw [HB.out, HF.out]), HE.out⟩
        · have HF := Lib.hid (HST.out (by unfold longQ; exact decide_eq_false h60))
          have e1 : decide (60 < s.size) = false := by simpa using h60
          have e2 : decide ((60:Int) < (s.size:Int)) = false := by simp; omega
          clear HTA HST h60
          go_wp2
          go_round
          case rel => exact ⟨j + 1, by omega, by go_num, HF.out⟩
          case measure => simp [intOf]; omega
      · have HF := Lib.hid (any_end _ _ _ (by rw [← L1.out]; exact hlt) HA.out)
        have e1 : decide (20 < nw) = false := by simp; omega
        have e2 : decide ((20:Int) < (nw:Int)) = false := by simp; omega
        go_wp2
        go_ret
        exact ⟨ret_bool (by rw [HB.out, HF.out]), HE.out⟩
  · have HB : Hid (bigQ ws = true) := by unfold Hid bigQ; rw [← L1.out, decide_eq_true (show 20 < nw by omega)]; simp
    have e1 : decide (nw ≤ 20) = false := by simpa using h20
    have e2 : decide ((nw:Int) ≤ 20) = false := by simp; omega
    have e3 : 0 < nw := by omega
    have e4 : 20 < nw := by omega
    clear h20
    go_enter Try.func7, Try.ntmps7
    go_wp2
    go_loop [3] (fun i => i = .int .i64 0) (fun _ => 0)
    case atStart => rfl
    case round =>
      obtain rfl := hrel
      go_wp2
      go_ret
      exact ⟨ret_bool (by rw [HB.out]; simp; omega), HE.out⟩
def keyB (s r v : Int) : Bool := decide (0 ≤ s ∧ s ≤ 1000) && decide (r = 0 ∨ r = 1) && decide (0 ≤ v ∧ v < 200)
def mayB (x : Sq) : Bool := keyB x.s x.r x.v && decide (0 ≤ x.d ∧ x.d ≤ 200)
theorem mayB_iff {x : Sq} : mayB x = true ↔ 0 ≤ x.s ∧ x.s ≤ 1000 ∧ (x.r = 0 ∨ x.r = 1) ∧ 0 ≤ x.v ∧ x.v < 200 ∧ 0 ≤ x.d ∧ x.d ≤ 200 := by
  unfold mayB keyB
  simp only [Bool.and_eq_true, decide_eq_true_eq]
  constructor
  · rintro ⟨⟨⟨⟨h1, h2⟩, h3⟩, h4, h5⟩, h6, h7⟩; exact ⟨h1, h2, h3, h4, h5, h6, h7⟩
  · rintro ⟨h1, h2, h3, h4, h5, h6, h7⟩; exact ⟨⟨⟨⟨h1, h2⟩, h3⟩, h4, h5⟩, h6, h7⟩
/-- keys that may be -/
theorem May14_yes (s r v : Int) (w : World) (h : 0 ≤ s ∧ s ≤ 1000 ∧ (r = 0 ∨ r = 1) ∧ 0 ≤ v ∧ v < 200) : Calls Try.prog 38 #[.agg #[.int .i64 s, .int .i64 r, .int .i64 v]] w fun e w' => e = .returned (.bool true) ∧ Ext w w' := by
  obtain ⟨h1, h2, h3, h4, h5⟩ := h
  have HE := Lib.hid ((Sep.start w).al #[.int .i64 s, .int .i64 r, .int .i64 v] 44 w.heap.size rfl).ext
  rcases h3 with rfl | rfl
  · go_enter Try.func38, Try.ntmps38
    go_wp2
    go_ret
    exact ⟨rfl, HE.out⟩
  · go_enter Try.func38, Try.ntmps38
    go_wp2
    go_ret
    exact ⟨rfl, HE.out⟩
theorem May16_yes (x : Sq) (w : World) (h : mayB x = true) : Calls Try.prog 25 #[.agg #[.int .i64 x.s, .int .i64 x.r, .int .i64 x.v, .int .i64 x.d]] w fun e w' => e = .returned (.bool true) ∧ Ext w w' := by
  obtain ⟨h1, h2, h3, h4, h5, h6, h7⟩ := mayB_iff.1 h
  clear h
  have S0 := Lib.hid ((Sep.start w).al #[.int .i64 x.s, .int .i64 x.r, .int .i64 x.v, .int .i64 x.d] 57 w.heap.size rfl)
  have HM := Lib.hid (fun W => May14_yes x.s x.r x.v W ⟨h1, h2, h3, h4, h5⟩)
  clear h1 h2 h3 h4 h5
  go_enter Try.func25, Try.ntmps25
  go_wp2_with (go_at_call 38; go_must (refine (HM.out _).mono ?_; rintro e w1 ⟨rfl, hb⟩; have S1 := Lib.hid (S0.out.call hb); have b3 : w1.cell? ⟨w.heap.size, 3, none⟩ = some (.int .i64 x.d) := (S1.out.blk 0 rfl).cell 3; have bz := (S1.out.blk 0 rfl).lt; clear hb))
  go_ret
  exact ⟨rfl, S1.out.ext⟩
set_option maxHeartbeats 1000000 in
theorem Check16_yes (p : Option Addr) (n c : Nat) (l : List Sq) (w : World) (hl : Rd w 4 p n (encQ l)) (h : ∀ x ∈ l, mayB x = true) : Calls Try.prog 11 #[.slice p n c] w fun e w' => e = .returned (.bool true) ∧ Ext w w' := by
  have p1 := hl.ptr
  have n1 := hl.small
  have L1 := Lib.hid hl.nQ
  have HL := Lib.hid hl; clear hl
  have HM := Lib.hid h; clear h
  go_enter Try.func11, Try.ntmps11
  go_wp2
  go_loopw [3] (fun i wr => ∃ k : Nat, k ≤ n ∧ i = .int .i64 k ∧ Ext w wr) (fun i _ => n - (intOf i).toNat)
  case atStart => exact ⟨0, Nat.zero_le _, rfl, Below.refl _ _⟩
  case round =>
    obtain ⟨k, hk, rfl, hE⟩ := hrel
    by_cases hlt : k < n
    · obtain ⟨g1, g2, g3, g4⟩ := (HL.out.ext hE).cQ hlt
      have HX := Lib.hid (HM.out (nth l k) (by rw [nth_eq (by rw [← L1.out]; exact hlt)]; exact List.getElem_mem _))
      have d1 : (0:Int) ≤ k := by omega
      have d2 : (k:Int) < n := by omega
      have HE := Lib.hid hE; clear hE
      generalize nth l k = x at *
      go_wp2_with (go_at_call 25; go_must (refine (May16_yes x _ HX.out).mono ?_; rintro e w1 ⟨rfl, hb⟩; have S1 := Lib.hid (Ext.trans HE.out hb); clear hb))
      go_roundw
      case rel => exact ⟨k + 1, by omega, by go_num, S1.out⟩
      case measure => simp [intOf]; omega
    · have HE := Lib.hid hE; clear hE
      go_wp2
      go_ret
      exact ⟨rfl, HE.out⟩
end Go.Proofs.Ytkekibnhmfmhmaa
/- Postings: the same; too many; few words. -/
namespace Go.Proofs.Ytkekibnhmfmhmaa
open Go Go.RowKit Go.Maps
def fewB (ws : List ByteArray) : Bool := ws.all (fun s => decide (s.size ≤ 60)) && decide (ws.length ≤ 12)
def badPo (p : Po) : Bool := decide (60 < p.1.size) || decide (60 < p.2.length)
def bigP (L : List Po) : Bool := (decide (L.length ≤ 40) && L.any badPo) || decide (40 < L.length)
theorem Big05 (p : Option Addr) (n c : Nat) (hs : List Hd) (L : List Po) (w : World) (hL : RdP w p n hs L) :
    Calls Try.prog 26 #[.slice p n c] w fun e w' => e = .returned (.bool (bigP L)) ∧ Ext w w' := by
  have p1 := hL.ptr
  have n1 := hL.small
  have L1 := Lib.hid hL.hn
  have HL := Lib.hid hL; clear hL
  by_cases h40 : n ≤ 40
  · have b0 : decide ((n : Int) ≤ 40) = true := by simp; omega
    have b0n : decide (n ≤ 40) = true := by simp; omega
    go_enter Try.func26, Try.ntmps26
    go_wp2
    go_loop [3] (fun i => ∃ k : Nat, k ≤ n ∧ i = .int .i64 k ∧ (L.take k).any badPo = false) (fun i => n - (intOf i).toNat)
    case atStart => exact ⟨0, Nat.zero_le _, rfl, rfl⟩
    case round =>
      obtain ⟨k, hk, rfl, ha⟩ := hrel
      have HA := Lib.hid ha; clear ha
      by_cases hlt : k < n
      · have g1 := HL.out.c1 k hlt
        have g2 := HL.out.c2 k hlt
        have LE := Lib.hid (HL.out.each k hlt).nI
        have d1 : (0:Int) ≤ k := by omega
        have d2 : (k:Int) < n := by omega
        have hkL : k < L.length := by rw [← L1.out]; exact hlt
        have HT : Hid (badPo (nth L k) = true → bigP L = true) := fun h => by unfold bigP; rw [any_true_at badPo L k hkL h, decide_eq_true (by rw [← L1.out]; exact h40)]; rfl
        by_cases h6 : 60 < (nth L k).1.size
        · have HF : Hid (bigP L = true) := HT.out (by unfold badPo; simp [h6])
          go_wp2
          go_ret
          exact ⟨ret_bool HF.out.symm, Below.refl _ _⟩
        · by_cases h7 : 60 < (nth hs k).n
          · have HF : Hid (bigP L = true) := HT.out (by unfold badPo; rw [← LE.out]; simp [h7])
            go_wp2
            go_ret
            exact ⟨ret_bool HF.out.symm, Below.refl _ _⟩
          · have HF := Lib.hid (any_step badPo L k hkL HA.out (by unfold badPo; rw [← LE.out]; simp; omega))
            go_wp2
            go_round
            case rel => exact ⟨k + 1, by omega, by go_num, HF.out⟩
            case measure => simp [intOf]; omega
      · have HF : Hid (bigP L = false) := by unfold Hid bigP; rw [any_end badPo L k (by rw [← L1.out]; exact hlt) HA.out, ← L1.out]; simp; omega
        go_wp2
        go_ret
        exact ⟨ret_bool (by rw [HF.out]; simp; try omega), Below.refl _ _⟩
  · have b0 : decide ((n : Int) ≤ 40) = false := by simp; omega
    have b0n : decide (n ≤ 40) = false := by simp; omega
    have HF : Hid (bigP L = true) := by unfold Hid bigP; rw [← L1.out]; simp; omega
    go_enter Try.func26, Try.ntmps26
    go_wp2
    refine wp_loop_rounds 1 ?_
    rw [rounds_succ]
    go_wp2
    go_ret
    exact ⟨ret_bool (by rw [HF.out]; simp; try omega), Below.refl _ _⟩
end Go.Proofs.Ytkekibnhmfmhmaa
/- Chapter 18: states and messages that are not looked at; small numbers. -/
namespace Go.Proofs.Ytkekibnhmfmhmaa
open Go Go.RowKit
def farS (L : List Po) (n m : Nat) : Bool := bigP L || (decide (60 < n) || decide (60 < m))
theorem FarS (pp : Option Addr) (np cp : Nat) (hs : List Hd) (L : List Po) (p : Option Addr) (n c : Nat) (pm : Option Addr) (nm cm : Nat) (w : World) (hL : RdP w pp np hs L) :
    Calls Try.prog 12 #[.slice pp np cp, .slice p n c, .slice pm nm cm] w fun e w' => e = .returned (.bool (farS L n nm)) ∧ Ext w w' := by
  have HB := Lib.hid (Big05 pp np cp hs L w hL)
  clear hL
  unfold farS
  cases hb : bigP L with
  | true =>
    rw [hb] at HB
    clear hb
    go_enter Try.func12, Try.ntmps12
    go_wp2_with (go_at_call 26; refine HB.out.mono ?_; rintro e w1 ⟨rfl, hb1⟩; have E1 := Lib.hid hb1; clear hb1)
    go_ret
    exact ⟨rfl, E1.out⟩
  | false =>
    rw [hb] at HB
    rw [Bool.false_or]
    clear hb
    by_cases h1 : 60 < n
    · have e1 : decide ((60:Int) < (n:Int)) = true := by simp; omega
      have e1n : decide (60 < n) = true := by simpa using h1
      rw [e1n, Bool.true_or]
      go_enter Try.func12, Try.ntmps12
      go_wp2_with (go_at_call 26; refine HB.out.mono ?_; rintro e w1 ⟨rfl, hb1⟩; have E1 := Lib.hid hb1; clear hb1)
      go_ret
      exact ⟨rfl, E1.out⟩
    · have e1 : decide ((60:Int) < (n:Int)) = false := by simp; omega
      have e1n : decide (60 < n) = false := by simpa using h1
      rw [e1n, Bool.false_or]
      by_cases h2 : 60 < nm
      · have e2 : decide ((60:Int) < (nm:Int)) = true := by simp; omega
        have e2n : decide (60 < nm) = true := by simpa using h2
        rw [e2n]
        go_enter Try.func12, Try.ntmps12
        go_wp2_with (go_at_call 26; refine HB.out.mono ?_; rintro e w1 ⟨rfl, hb1⟩; have E1 := Lib.hid hb1; clear hb1)
        go_ret
        exact ⟨rfl, E1.out⟩
      · have e2 : decide ((60:Int) < (nm:Int)) = false := by simp; omega
        have e2n : decide (60 < nm) = false := by simpa using h2
        rw [e2n]
        clear h1 h2
        go_enter Try.func12, Try.ntmps12
        go_wp2_with (go_at_call 26; refine HB.out.mono ?_; rintro e w1 ⟨rfl, hb1⟩; have E1 := Lib.hid hb1; clear hb1)
        go_ret
        exact ⟨rfl, E1.out⟩
def smallQ (x : Sq) : Bool := decide (-1000000 ≤ x.d) && decide (x.d ≤ 1000000)
def cleanB (l : List Sq) : Bool := l.all smallQ
theorem clean_facts {l : List Sq} (h : cleanB l = true) : ∀ x ∈ l, -1000000 ≤ x.d ∧ x.d ≤ 1000000 := fun x hx => by
  have := List.all_eq_true.1 h x hx
  unfold smallQ at this
  rw [Bool.and_eq_true, decide_eq_true_eq, decide_eq_true_eq] at this
  exact this
set_option maxRecDepth 100000 in
set_option maxHeartbeats 2000000 in
theorem CleanQ (p : Option Addr) (n c : Nat) (l : List Sq) (w : World) (hl : Rd w 4 p n (encQ l)) : Calls Try.prog 13 #[.slice p n c] w fun e w' => e = .returned (.bool (cleanB l)) ∧ w' = w := by
  have p1 := hl.ptr
  have n1 := hl.small
  have L1 := Lib.hid hl.nQ
  have HL := Lib.hid hl; clear hl
  go_enter Try.func13, Try.ntmps13
  go_wp2
  go_loop [3] (fun i => ∃ k : Nat, k ≤ n ∧ i = .int .i64 k ∧ (l.take k).all smallQ = true) (fun i => n - (intOf i).toNat)
  case atStart => exact ⟨0, Nat.zero_le _, rfl, rfl⟩
  case round =>
    obtain ⟨k, hk, rfl, ha⟩ := hrel
    have HA := Lib.hid ha; clear ha
    by_cases hlt : k < n
    · have g4 := (HL.out.cQ hlt).2.2.2
      have hkl : k < l.length := by rw [← L1.out]; exact hlt
      have HFA := Lib.hid (all_false_at smallQ l k hkl)
      have HST := Lib.hid (all_step smallQ l k hkl HA.out)
      have d1 : (0:Int) ≤ k := by omega
      have d2 : (k:Int) < n := by omega
      clear hkl
      generalize nth l k = x at *
      by_cases h1 : x.d < -1000000
      · have HF := Lib.hid (HFA.out (by unfold smallQ; rw [decide_eq_false (by omega)]; rfl))
        have e1 : decide (x.d < -1000000) = true := by simpa using h1
        clear h1 HFA HST
        go_wp2
        go_ret
        exact ⟨ret_bool HF.out.symm, rfl⟩
      · have e1 : decide (x.d < -1000000) = false := by simpa using h1
        by_cases h2 : 1000000 < x.d
        · have HF := Lib.hid (HFA.out (by unfold smallQ; rw [decide_eq_false (show ¬ x.d ≤ 1000000 by omega), Bool.and_false]))
          have e2 : decide (1000000 < x.d) = true := by simpa using h2
          clear h1 h2 HFA HST
          go_wp2
          go_ret
          exact ⟨ret_bool HF.out.symm, rfl⟩
        · have HF := Lib.hid (HST.out (by unfold smallQ; rw [decide_eq_true (show -1000000 ≤ x.d by omega), decide_eq_true (show x.d ≤ 1000000 by omega)]; rfl))
          have e2 : decide (1000000 < x.d) = false := by simpa using h2
          clear h1 h2 HFA HST
          go_wp2
          go_round
          case rel => exact ⟨k + 1, by omega, by go_num, HF.out⟩
          case measure => simp [intOf]; omega
    · have HF := Lib.hid (all_end _ _ _ (by rw [← L1.out]; exact hlt) HA.out)
      go_wp2
      go_ret
      exact ⟨ret_bool HF.out.symm, rfl⟩
end Go.Proofs.Ytkekibnhmfmhmaa
/- Chapter 18: is a query of the kind 2 done, or one of no kind (the program's Done). -/
namespace Go.Proofs.Ytkekibnhmfmhmaa
open Go Go.RowKit Go.Maps
theorem least_at {l : List Sq} {f : Int → Option I6} (h : Least l 0 f) (t : Int) : (f t).isSome = atS l t := by
  cases hf : f t with
  | none =>
    have := h.1 t hf
    cases ha : atS l t with
    | false => rfl
    | true =>
      obtain ⟨x, hx, h1, h2⟩ := atS_iff.1 ha
      exact absurd h2 (this x hx h1)
  | some d =>
    obtain ⟨x, hx, h1, h2, _⟩ := (h.2 t d hf).1
    exact (atS_iff.2 ⟨x, hx, h1, h2⟩).symm
set_option maxRecDepth 100000 in
set_option maxHeartbeats 4000000 in
theorem Done2 (f t : Int) (pw : Option Addr) (nw cw : Nat) (rad most : Int) (pl : Option Addr) (nl cl : Nat) (p : Option Addr) (n c : Nat) (l : List Sq) (pm : Option Addr) (nm cm : Nat) (w : World) (hl : Rd w 4 p n (encQ l)) (hi : ∀ x ∈ l, I64 x.v ∧ I64 x.d) (hn : n ≤ 1000000) (ht : I64 t) :
    Calls Try.prog 14 #[.agg #[.int .i64 2, .int .i64 f, .int .i64 t, .slice pw nw cw, .int .i64 rad, .int .i64 most], .slice pl nl cl, .slice p n c, .slice pm nm cm] w fun e w' => e = .returned (.tuple #[.agg #[.bool (atS l t), .int .i64 0, .slice none 0 0], .bool (atS l t || decide (nm = 0))]) ∧ Ext w w' := by
  have S0 := Lib.hid ((((Sep.start w).al #[.int .i64 2, .int .i64 f, .int .i64 t, .slice pw nw cw, .int .i64 rad, .int .i64 most] 24 w.heap.size rfl).al #[.slice pm nm cm] 29 (w.heap.size + 1) (by simp)).al #[.bool false, .int .i64 0, .slice none 0 0] 38 (w.heap.size + 1 + 1) (by simp))
  have HLE := Lib.hid (fun W (h : Ext w W) => leastG p n c l 0 W (hl.ext h) hi hn)
  clear hl hi
  cases hbb : atS l t with
  | true =>
    have HB := Lib.hid hbb
    have HD : Hid ((true || decide (nm = 0)) = true) := rfl
    go_enter Try.func14, Try.ntmps14
    go_wp2
    obtain ⟨X, hX⟩ : ∃ X, X = ((w.alloc (.cells #[.int .i64 2, .int .i64 f, .int .i64 t, .slice pw nw cw, .int .i64 rad, .int .i64 most] 24)).alloc (.cells #[.slice pm nm cm] 29)).alloc (.cells #[.bool false, .int .i64 0, .slice none 0 0] 38) := ⟨_, rfl⟩
    rw [← hX] at S0 ⊢
    clear hX
    have a2 : X.cell? ⟨w.heap.size, 2, none⟩ = some (.int .i64 t) := (S0.out.blk 2 rfl).cell 2
    refine wp_region_noPanic ?_
    refine wp_region_held_drew (S := fun w' => w'.cell? ⟨w.heap.size, 2, none⟩ = some (.int .i64 t)) (by kernel_rfl) a2 (fun hHeld => ?_)
    have SD := Lib.hid S0.out.drew
    clear S0 a2
    generalize X.drew = D at SD hHeld ⊢
    clear X
    refine wpAnyH_take (i := 0) (v := .slice p n c) rfl (by kernel_rfl) (by kernel_rfl) (by kernel_rfl) (noPanic_q _ _) (Or.inl ⟨by kernel_rfl, fun W hSw => by have h1 := hSw; go_simp⟩) hHeld ?_
    refine wpAnyH_take (i := 2) (v := .pointer (some ⟨w.heap.size, 2, none⟩)) rfl (by kernel_rfl) (by kernel_rfl) (by kernel_rfl) (noPanic_q _ _) (Or.inl ⟨by kernel_rfl, fun W hSw => by have h1 := hSw; go_simp⟩) hHeld ?_
    refine wpAnyH_take (i := 3) (v := .int .i64 t) rfl (by kernel_rfl) (by kernel_rfl) (by kernel_rfl) (noPanic_q _ _) (Or.inl ⟨by kernel_rfl, fun W hSw => by have h1 := hSw; go_simp⟩) hHeld ?_
    refine wpAnyH_ready (rs := [1]) (by kernel_rfl) (by simp) (AllReadyH.cons rfl (fun K hK => ?_) AllReadyH.nil)
    go_simp
    refine (HLE.out _ SD.out.ext).mono ?_
    rintro e w1 ⟨b, m, g, hm, rfl, Z, hg⟩
    have HG := Lib.hid (least_at hg t)
    have S1 := Lib.hid (SD.out.comp Z)
    clear hg Z SD
    have a2 : w1.cell? ⟨w.heap.size, 2, none⟩ = some (.int .i64 t) := (S1.out.blk 3 rfl).cell 2
    refine hK.out _ _ a2 (fun hHeld => ?_)
    clear hK
    have k0 := (S1.out.map 0 rfl).lookup_ok (t := 70) Try.underlying3 Try.underlying70 ht
    rw [HG.out, HB.out] at k0
    generalize (g t).getD EI6.z = z0 at k0
    have k1 : (Instr.lookup 70 (.map (some b)) (.int .i64 t) true).run Try.prog w1 = .ok (.tuple #[.int .i64 z0.1, .bool true]) w1 := k0
    clear k0 HG
    refine wpAnyH_ready (rs := [4]) (by kernel_rfl) (by simp) (AllReadyH.cons rfl (fun K hK => ?_) AllReadyH.nil)
    go_simp
    refine hK.out _ _ a2 (fun hHeld => ?_)
    clear hK k1
    refine wpAnyH_take (i := 5) (v := .tuple #[.int .i64 z0.1, .bool true]) rfl (by kernel_rfl) (by kernel_rfl) (by kernel_rfl) (noPanic_q _ _) (Or.inl ⟨by kernel_rfl, fun W hSw => by have h1 := hSw; go_simp⟩) hHeld ?_
    refine wpAnyH_take (i := 6) (v := .int .i64 z0.1) rfl (by kernel_rfl) (by kernel_rfl) (by kernel_rfl) (noPanic_q _ _) (Or.inl ⟨by kernel_rfl, fun W hSw => by have h1 := hSw; go_simp⟩) hHeld ?_
    refine wpAnyH_take (i := 7) (v := .bool true) rfl (by kernel_rfl) (by kernel_rfl) (by kernel_rfl) (noPanic_q _ _) (Or.inl ⟨by kernel_rfl, fun W hSw => by have h1 := hSw; go_simp⟩) hHeld ?_
    refine wpAnyH_take (i := 8) (v := .int .i64 z0.1) rfl (by kernel_rfl) (by kernel_rfl) (by kernel_rfl) (noPanic_q _ _) (Or.inl ⟨by kernel_rfl, fun W hSw => by have h1 := hSw; go_simp⟩) hHeld ?_
    refine wpAnyH_take (i := 9) (v := .bool true) rfl (by kernel_rfl) (by kernel_rfl) (by kernel_rfl) (noPanic_q _ _) (Or.inl ⟨by kernel_rfl, fun W hSw => by have h1 := hSw; go_simp⟩) hHeld ?_
    refine wpAnyH_done (by kernel_rfl) ?_ _
    refine noPanic_mk ?_
    clear hHeld a2
    simp [Act.put]
    go_wp2
    have m0 : w1.cell? ⟨w.heap.size + 1, 0, none⟩ = some (.slice pm nm cm) := (S1.out.blk 2 rfl).cell 0
    refine wp_region_noPanic ?_
    refine wp_region_held_drew (S := fun w' => w'.cell? ⟨w.heap.size + 1, 0, none⟩ = some (.slice pm nm cm)) (by kernel_rfl) m0 (fun hHeld => ?_)
    have SD := Lib.hid S1.out.drew
    clear S1 m0
    generalize w1.drew = D2 at SD hHeld ⊢
    refine wpAnyH_take (i := 0) (v := .bool true) rfl (by kernel_rfl) (by kernel_rfl) (by kernel_rfl) (noPanic_q _ _) (Or.inl ⟨by kernel_rfl, fun W hSw => by have h1 := hSw; go_simp⟩) hHeld ?_
    refine wpAnyH_take (i := 1) (v := .agg #[.bool true, .int .i64 0, .slice none 0 0]) rfl (by kernel_rfl) (by kernel_rfl) (by kernel_rfl) (noPanic_q _ _) (Or.inl ⟨by kernel_rfl, fun W hSw => by have h1 := hSw; go_simp⟩) hHeld ?_
    refine wpAnyH_take (i := 2) (v := .bool true) rfl (by kernel_rfl) (by kernel_rfl) (by kernel_rfl) (noPanic_q _ _) (Or.inl ⟨by kernel_rfl, fun W hSw => by have h1 := hSw; go_simp⟩) hHeld ?_
    refine wpAnyH_take (i := 3) (v := .bool true) rfl (by kernel_rfl) (by kernel_rfl) (by kernel_rfl) (noPanic_q _ _) (Or.inl ⟨by kernel_rfl, fun W hSw => by have h1 := hSw; go_simp⟩) hHeld ?_
    refine wpAnyH_take (i := 4) (v := undef) rfl (by kernel_rfl) (by kernel_rfl) (by kernel_rfl) (noPanic_q _ _) (Or.inr ⟨by kernel_rfl, rfl⟩) hHeld ?_
    refine wpAnyH_take (i := 5) (v := undef) rfl (by kernel_rfl) (by kernel_rfl) (by kernel_rfl) (noPanic_q _ _) (Or.inr ⟨by kernel_rfl, rfl⟩) hHeld ?_
    refine wpAnyH_take (i := 6) (v := undef) rfl (by kernel_rfl) (by kernel_rfl) (by kernel_rfl) (noPanic_q _ _) (Or.inr ⟨by kernel_rfl, rfl⟩) hHeld ?_
    refine wpAnyH_take (i := 7) (v := .bool true) rfl (by kernel_rfl) (by kernel_rfl) (by kernel_rfl) (noPanic_q _ _) (Or.inl ⟨by kernel_rfl, fun W hSw => by have h1 := hSw; go_simp⟩) hHeld ?_
    have a0 := (SD.out.blk 1 rfl).cell 0
    have a1 := (SD.out.blk 1 rfl).cell 1
    have a2 := (SD.out.blk 1 rfl).cell 2
    have az := (SD.out.blk 1 rfl).lt
    have f0 := (SD.out.blk 1 rfl).frozen 0
    have f1 := (SD.out.blk 1 rfl).frozen 1
    have f2 := (SD.out.blk 1 rfl).frozen 2
    have S9 := Lib.hid (((SD.out.set 1 rfl 0 (.bool true)).set 1 rfl 1 (.int .i64 0)).set 1 rfl 2 (.slice none 0 0))
    refine wpAnyH_ready (rs := [8]) (by kernel_rfl) (by simp) (AllReadyH.cons rfl (fun K hK => ?_) AllReadyH.nil)
    go_simp
    have c0 := (S9.out.blk 2 rfl).cell 0
    refine hK.out _ _ c0 (fun hHeld => ?_)
    clear hK
    refine wpAnyH_take (i := 9) (v := .bool true) rfl (by kernel_rfl) (by kernel_rfl) (by kernel_rfl) (noPanic_q _ _) (Or.inl ⟨by kernel_rfl, fun W hSw => by have h1 := hSw; go_simp⟩) hHeld ?_
    refine wpAnyH_done (by kernel_rfl) ?_ _
    refine noPanic_mk ?_
    have x0 := (S9.out.blk 1 rfl).cell 0
    have x1 := (S9.out.blk 1 rfl).cell 1
    have x2 := (S9.out.blk 1 rfl).cell 2
    go_wp2
    exact bodyPost_ret (v := .tuple #[.agg #[.bool true, .int .i64 0, .slice none 0 0], .bool true]) (by simp [results, Try.results14, go_sem, x0, x1, x2, Try.sizeOf38, Try.isAgg38]) rfl ⟨by rw [HD.out], S9.out.ext⟩
  | false =>
    have HB := Lib.hid hbb
    by_cases h0 : nm = 0
    · have HD : Hid ((false || decide (nm = 0)) = true) := by unfold Hid; simp [h0]
      have hb0 : ((nm:Int) == 0) = true := by simp; omega
      clear h0
      go_enter Try.func14, Try.ntmps14
      go_wp2
      obtain ⟨X, hX⟩ : ∃ X, X = ((w.alloc (.cells #[.int .i64 2, .int .i64 f, .int .i64 t, .slice pw nw cw, .int .i64 rad, .int .i64 most] 24)).alloc (.cells #[.slice pm nm cm] 29)).alloc (.cells #[.bool false, .int .i64 0, .slice none 0 0] 38) := ⟨_, rfl⟩
      rw [← hX] at S0 ⊢
      clear hX
      have a2 : X.cell? ⟨w.heap.size, 2, none⟩ = some (.int .i64 t) := (S0.out.blk 2 rfl).cell 2
      refine wp_region_noPanic ?_
      refine wp_region_held_drew (S := fun w' => w'.cell? ⟨w.heap.size, 2, none⟩ = some (.int .i64 t)) (by kernel_rfl) a2 (fun hHeld => ?_)
      have SD := Lib.hid S0.out.drew
      clear S0 a2
      generalize X.drew = D at SD hHeld ⊢
      clear X
      refine wpAnyH_take (i := 0) (v := .slice p n c) rfl (by kernel_rfl) (by kernel_rfl) (by kernel_rfl) (noPanic_q _ _) (Or.inl ⟨by kernel_rfl, fun W hSw => by have h1 := hSw; go_simp⟩) hHeld ?_
      refine wpAnyH_take (i := 2) (v := .pointer (some ⟨w.heap.size, 2, none⟩)) rfl (by kernel_rfl) (by kernel_rfl) (by kernel_rfl) (noPanic_q _ _) (Or.inl ⟨by kernel_rfl, fun W hSw => by have h1 := hSw; go_simp⟩) hHeld ?_
      refine wpAnyH_take (i := 3) (v := .int .i64 t) rfl (by kernel_rfl) (by kernel_rfl) (by kernel_rfl) (noPanic_q _ _) (Or.inl ⟨by kernel_rfl, fun W hSw => by have h1 := hSw; go_simp⟩) hHeld ?_
      refine wpAnyH_ready (rs := [1]) (by kernel_rfl) (by simp) (AllReadyH.cons rfl (fun K hK => ?_) AllReadyH.nil)
      go_simp
      refine (HLE.out _ SD.out.ext).mono ?_
      rintro e w1 ⟨b, m, g, hm, rfl, Z, hg⟩
      have HG := Lib.hid (least_at hg t)
      have S1 := Lib.hid (SD.out.comp Z)
      clear hg Z SD
      have a2 : w1.cell? ⟨w.heap.size, 2, none⟩ = some (.int .i64 t) := (S1.out.blk 3 rfl).cell 2
      refine hK.out _ _ a2 (fun hHeld => ?_)
      clear hK
      have k0 := (S1.out.map 0 rfl).lookup_ok (t := 70) Try.underlying3 Try.underlying70 ht
      rw [HG.out, HB.out] at k0
      generalize (g t).getD EI6.z = z0 at k0
      have k1 : (Instr.lookup 70 (.map (some b)) (.int .i64 t) true).run Try.prog w1 = .ok (.tuple #[.int .i64 z0.1, .bool false]) w1 := k0
      clear k0 HG
      refine wpAnyH_ready (rs := [4]) (by kernel_rfl) (by simp) (AllReadyH.cons rfl (fun K hK => ?_) AllReadyH.nil)
      go_simp
      refine hK.out _ _ a2 (fun hHeld => ?_)
      clear hK k1
      refine wpAnyH_take (i := 5) (v := .tuple #[.int .i64 z0.1, .bool false]) rfl (by kernel_rfl) (by kernel_rfl) (by kernel_rfl) (noPanic_q _ _) (Or.inl ⟨by kernel_rfl, fun W hSw => by have h1 := hSw; go_simp⟩) hHeld ?_
      refine wpAnyH_take (i := 6) (v := .int .i64 z0.1) rfl (by kernel_rfl) (by kernel_rfl) (by kernel_rfl) (noPanic_q _ _) (Or.inl ⟨by kernel_rfl, fun W hSw => by have h1 := hSw; go_simp⟩) hHeld ?_
      refine wpAnyH_take (i := 7) (v := .bool false) rfl (by kernel_rfl) (by kernel_rfl) (by kernel_rfl) (noPanic_q _ _) (Or.inl ⟨by kernel_rfl, fun W hSw => by have h1 := hSw; go_simp⟩) hHeld ?_
      refine wpAnyH_take (i := 8) (v := .int .i64 z0.1) rfl (by kernel_rfl) (by kernel_rfl) (by kernel_rfl) (noPanic_q _ _) (Or.inl ⟨by kernel_rfl, fun W hSw => by have h1 := hSw; go_simp⟩) hHeld ?_
      refine wpAnyH_take (i := 9) (v := .bool false) rfl (by kernel_rfl) (by kernel_rfl) (by kernel_rfl) (noPanic_q _ _) (Or.inl ⟨by kernel_rfl, fun W hSw => by have h1 := hSw; go_simp⟩) hHeld ?_
      refine wpAnyH_done (by kernel_rfl) ?_ _
      refine noPanic_mk ?_
      clear hHeld a2
      simp [Act.put]
      go_wp2
      have m0 : w1.cell? ⟨w.heap.size + 1, 0, none⟩ = some (.slice pm nm cm) := (S1.out.blk 2 rfl).cell 0
      refine wp_region_noPanic ?_
      refine wp_region_held_drew (S := fun w' => w'.cell? ⟨w.heap.size + 1, 0, none⟩ = some (.slice pm nm cm)) (by kernel_rfl) m0 (fun hHeld => ?_)
      have SD := Lib.hid S1.out.drew
      clear S1 m0
      generalize w1.drew = D2 at SD hHeld ⊢
      refine wpAnyH_take (i := 0) (v := .bool false) rfl (by kernel_rfl) (by kernel_rfl) (by kernel_rfl) (noPanic_q _ _) (Or.inl ⟨by kernel_rfl, fun W hSw => by have h1 := hSw; go_simp⟩) hHeld ?_
      refine wpAnyH_take (i := 1) (v := .agg #[.bool false, .int .i64 0, .slice none 0 0]) rfl (by kernel_rfl) (by kernel_rfl) (by kernel_rfl) (noPanic_q _ _) (Or.inl ⟨by kernel_rfl, fun W hSw => by have h1 := hSw; go_simp⟩) hHeld ?_
      refine wpAnyH_take (i := 2) (v := .bool false) rfl (by kernel_rfl) (by kernel_rfl) (by kernel_rfl) (noPanic_q _ _) (Or.inl ⟨by kernel_rfl, fun W hSw => by have h1 := hSw; go_simp⟩) hHeld ?_
      refine wpAnyH_take (i := 3) (v := .bool false) rfl (by kernel_rfl) (by kernel_rfl) (by kernel_rfl) (noPanic_q _ _) (Or.inl ⟨by kernel_rfl, fun W hSw => by have h1 := hSw; go_simp⟩) hHeld ?_
      refine wpAnyH_take (i := 4) (v := .slice pm nm cm) rfl (by kernel_rfl) (by kernel_rfl) (by kernel_rfl) (noPanic_q _ _) (Or.inl ⟨by kernel_rfl, fun W hSw => by have h1 := hSw; go_simp⟩) hHeld ?_
      refine wpAnyH_take (i := 5) (v := .int .i64 nm) rfl (by kernel_rfl) (by kernel_rfl) (by kernel_rfl) (noPanic_q _ _) (Or.inl ⟨by kernel_rfl, fun W hSw => by have h1 := hSw; go_simp⟩) hHeld ?_
      refine wpAnyH_take (i := 6) (v := .bool true) rfl (by kernel_rfl) (by kernel_rfl) (by kernel_rfl) (noPanic_q _ _) (Or.inl ⟨by kernel_rfl, fun W hSw => by have h1 := hSw; go_simp⟩) hHeld ?_
      refine wpAnyH_take (i := 7) (v := .bool true) rfl (by kernel_rfl) (by kernel_rfl) (by kernel_rfl) (noPanic_q _ _) (Or.inl ⟨by kernel_rfl, fun W hSw => by have h1 := hSw; go_simp⟩) hHeld ?_
      have a0 := (SD.out.blk 1 rfl).cell 0
      have a1 := (SD.out.blk 1 rfl).cell 1
      have a2 := (SD.out.blk 1 rfl).cell 2
      have az := (SD.out.blk 1 rfl).lt
      have f0 := (SD.out.blk 1 rfl).frozen 0
      have f1 := (SD.out.blk 1 rfl).frozen 1
      have f2 := (SD.out.blk 1 rfl).frozen 2
      have S9 := Lib.hid (((SD.out.set 1 rfl 0 (.bool false)).set 1 rfl 1 (.int .i64 0)).set 1 rfl 2 (.slice none 0 0))
      refine wpAnyH_ready (rs := [8]) (by kernel_rfl) (by simp) (AllReadyH.cons rfl (fun K hK => ?_) AllReadyH.nil)
      go_simp
      have c0 := (S9.out.blk 2 rfl).cell 0
      refine hK.out _ _ c0 (fun hHeld => ?_)
      clear hK
      refine wpAnyH_take (i := 9) (v := .bool true) rfl (by kernel_rfl) (by kernel_rfl) (by kernel_rfl) (noPanic_q _ _) (Or.inl ⟨by kernel_rfl, fun W hSw => by have h1 := hSw; go_simp⟩) hHeld ?_
      refine wpAnyH_done (by kernel_rfl) ?_ _
      refine noPanic_mk ?_
      have x0 := (S9.out.blk 1 rfl).cell 0
      have x1 := (S9.out.blk 1 rfl).cell 1
      have x2 := (S9.out.blk 1 rfl).cell 2
      go_wp2
      exact bodyPost_ret (v := .tuple #[.agg #[.bool false, .int .i64 0, .slice none 0 0], .bool true]) (by simp [results, Try.results14, go_sem, x0, x1, x2, Try.sizeOf38, Try.isAgg38]) rfl ⟨by rw [HD.out], S9.out.ext⟩
    · have HD : Hid ((false || decide (nm = 0)) = false) := by unfold Hid; simp [h0]
      have hb0 : ((nm:Int) == 0) = false := by simp; omega
      clear h0
      go_enter Try.func14, Try.ntmps14
      go_wp2
      obtain ⟨X, hX⟩ : ∃ X, X = ((w.alloc (.cells #[.int .i64 2, .int .i64 f, .int .i64 t, .slice pw nw cw, .int .i64 rad, .int .i64 most] 24)).alloc (.cells #[.slice pm nm cm] 29)).alloc (.cells #[.bool false, .int .i64 0, .slice none 0 0] 38) := ⟨_, rfl⟩
      rw [← hX] at S0 ⊢
      clear hX
      have a2 : X.cell? ⟨w.heap.size, 2, none⟩ = some (.int .i64 t) := (S0.out.blk 2 rfl).cell 2
      refine wp_region_noPanic ?_
      refine wp_region_held_drew (S := fun w' => w'.cell? ⟨w.heap.size, 2, none⟩ = some (.int .i64 t)) (by kernel_rfl) a2 (fun hHeld => ?_)
      have SD := Lib.hid S0.out.drew
      clear S0 a2
      generalize X.drew = D at SD hHeld ⊢
      clear X
      refine wpAnyH_take (i := 0) (v := .slice p n c) rfl (by kernel_rfl) (by kernel_rfl) (by kernel_rfl) (noPanic_q _ _) (Or.inl ⟨by kernel_rfl, fun W hSw => by have h1 := hSw; go_simp⟩) hHeld ?_
      refine wpAnyH_take (i := 2) (v := .pointer (some ⟨w.heap.size, 2, none⟩)) rfl (by kernel_rfl) (by kernel_rfl) (by kernel_rfl) (noPanic_q _ _) (Or.inl ⟨by kernel_rfl, fun W hSw => by have h1 := hSw; go_simp⟩) hHeld ?_
      refine wpAnyH_take (i := 3) (v := .int .i64 t) rfl (by kernel_rfl) (by kernel_rfl) (by kernel_rfl) (noPanic_q _ _) (Or.inl ⟨by kernel_rfl, fun W hSw => by have h1 := hSw; go_simp⟩) hHeld ?_
      refine wpAnyH_ready (rs := [1]) (by kernel_rfl) (by simp) (AllReadyH.cons rfl (fun K hK => ?_) AllReadyH.nil)
      go_simp
      refine (HLE.out _ SD.out.ext).mono ?_
      rintro e w1 ⟨b, m, g, hm, rfl, Z, hg⟩
      have HG := Lib.hid (least_at hg t)
      have S1 := Lib.hid (SD.out.comp Z)
      clear hg Z SD
      have a2 : w1.cell? ⟨w.heap.size, 2, none⟩ = some (.int .i64 t) := (S1.out.blk 3 rfl).cell 2
      refine hK.out _ _ a2 (fun hHeld => ?_)
      clear hK
      have k0 := (S1.out.map 0 rfl).lookup_ok (t := 70) Try.underlying3 Try.underlying70 ht
      rw [HG.out, HB.out] at k0
      generalize (g t).getD EI6.z = z0 at k0
      have k1 : (Instr.lookup 70 (.map (some b)) (.int .i64 t) true).run Try.prog w1 = .ok (.tuple #[.int .i64 z0.1, .bool false]) w1 := k0
      clear k0 HG
      refine wpAnyH_ready (rs := [4]) (by kernel_rfl) (by simp) (AllReadyH.cons rfl (fun K hK => ?_) AllReadyH.nil)
      go_simp
      refine hK.out _ _ a2 (fun hHeld => ?_)
      clear hK k1
      refine wpAnyH_take (i := 5) (v := .tuple #[.int .i64 z0.1, .bool false]) rfl (by kernel_rfl) (by kernel_rfl) (by kernel_rfl) (noPanic_q _ _) (Or.inl ⟨by kernel_rfl, fun W hSw => by have h1 := hSw; go_simp⟩) hHeld ?_
      refine wpAnyH_take (i := 6) (v := .int .i64 z0.1) rfl (by kernel_rfl) (by kernel_rfl) (by kernel_rfl) (noPanic_q _ _) (Or.inl ⟨by kernel_rfl, fun W hSw => by have h1 := hSw; go_simp⟩) hHeld ?_
      refine wpAnyH_take (i := 7) (v := .bool false) rfl (by kernel_rfl) (by kernel_rfl) (by kernel_rfl) (noPanic_q _ _) (Or.inl ⟨by kernel_rfl, fun W hSw => by have h1 := hSw; go_simp⟩) hHeld ?_
      refine wpAnyH_take (i := 8) (v := .int .i64 z0.1) rfl (by kernel_rfl) (by kernel_rfl) (by kernel_rfl) (noPanic_q _ _) (Or.inl ⟨by kernel_rfl, fun W hSw => by have h1 := hSw; go_simp⟩) hHeld ?_
      refine wpAnyH_take (i := 9) (v := .bool false) rfl (by kernel_rfl) (by kernel_rfl) (by kernel_rfl) (noPanic_q _ _) (Or.inl ⟨by kernel_rfl, fun W hSw => by have h1 := hSw; go_simp⟩) hHeld ?_
      refine wpAnyH_done (by kernel_rfl) ?_ _
      refine noPanic_mk ?_
      clear hHeld a2
      simp [Act.put]
      go_wp2
      have m0 : w1.cell? ⟨w.heap.size + 1, 0, none⟩ = some (.slice pm nm cm) := (S1.out.blk 2 rfl).cell 0
      refine wp_region_noPanic ?_
      refine wp_region_held_drew (S := fun w' => w'.cell? ⟨w.heap.size + 1, 0, none⟩ = some (.slice pm nm cm)) (by kernel_rfl) m0 (fun hHeld => ?_)
      have SD := Lib.hid S1.out.drew
      clear S1 m0
      generalize w1.drew = D2 at SD hHeld ⊢
      refine wpAnyH_take (i := 0) (v := .bool false) rfl (by kernel_rfl) (by kernel_rfl) (by kernel_rfl) (noPanic_q _ _) (Or.inl ⟨by kernel_rfl, fun W hSw => by have h1 := hSw; go_simp⟩) hHeld ?_
      refine wpAnyH_take (i := 1) (v := .agg #[.bool false, .int .i64 0, .slice none 0 0]) rfl (by kernel_rfl) (by kernel_rfl) (by kernel_rfl) (noPanic_q _ _) (Or.inl ⟨by kernel_rfl, fun W hSw => by have h1 := hSw; go_simp⟩) hHeld ?_
      refine wpAnyH_take (i := 2) (v := .bool false) rfl (by kernel_rfl) (by kernel_rfl) (by kernel_rfl) (noPanic_q _ _) (Or.inl ⟨by kernel_rfl, fun W hSw => by have h1 := hSw; go_simp⟩) hHeld ?_
      refine wpAnyH_take (i := 3) (v := .bool false) rfl (by kernel_rfl) (by kernel_rfl) (by kernel_rfl) (noPanic_q _ _) (Or.inl ⟨by kernel_rfl, fun W hSw => by have h1 := hSw; go_simp⟩) hHeld ?_
      refine wpAnyH_take (i := 4) (v := .slice pm nm cm) rfl (by kernel_rfl) (by kernel_rfl) (by kernel_rfl) (noPanic_q _ _) (Or.inl ⟨by kernel_rfl, fun W hSw => by have h1 := hSw; go_simp⟩) hHeld ?_
      refine wpAnyH_take (i := 5) (v := .int .i64 nm) rfl (by kernel_rfl) (by kernel_rfl) (by kernel_rfl) (noPanic_q _ _) (Or.inl ⟨by kernel_rfl, fun W hSw => by have h1 := hSw; go_simp⟩) hHeld ?_
      refine wpAnyH_take (i := 6) (v := .bool false) rfl (by kernel_rfl) (by kernel_rfl) (by kernel_rfl) (noPanic_q _ _) (Or.inl ⟨by kernel_rfl, fun W hSw => by have h1 := hSw; go_simp⟩) hHeld ?_
      refine wpAnyH_take (i := 7) (v := .bool false) rfl (by kernel_rfl) (by kernel_rfl) (by kernel_rfl) (noPanic_q _ _) (Or.inl ⟨by kernel_rfl, fun W hSw => by have h1 := hSw; go_simp⟩) hHeld ?_
      have a0 := (SD.out.blk 1 rfl).cell 0
      have a1 := (SD.out.blk 1 rfl).cell 1
      have a2 := (SD.out.blk 1 rfl).cell 2
      have az := (SD.out.blk 1 rfl).lt
      have f0 := (SD.out.blk 1 rfl).frozen 0
      have f1 := (SD.out.blk 1 rfl).frozen 1
      have f2 := (SD.out.blk 1 rfl).frozen 2
      have S9 := Lib.hid (((SD.out.set 1 rfl 0 (.bool false)).set 1 rfl 1 (.int .i64 0)).set 1 rfl 2 (.slice none 0 0))
      refine wpAnyH_ready (rs := [8]) (by kernel_rfl) (by simp) (AllReadyH.cons rfl (fun K hK => ?_) AllReadyH.nil)
      go_simp
      have c0 := (S9.out.blk 2 rfl).cell 0
      refine hK.out _ _ c0 (fun hHeld => ?_)
      clear hK
      refine wpAnyH_take (i := 9) (v := .bool false) rfl (by kernel_rfl) (by kernel_rfl) (by kernel_rfl) (noPanic_q _ _) (Or.inl ⟨by kernel_rfl, fun W hSw => by have h1 := hSw; go_simp⟩) hHeld ?_
      refine wpAnyH_done (by kernel_rfl) ?_ _
      refine noPanic_mk ?_
      have x0 := (S9.out.blk 1 rfl).cell 0
      have x1 := (S9.out.blk 1 rfl).cell 1
      have x2 := (S9.out.blk 1 rfl).cell 2
      go_wp2
      exact bodyPost_ret (v := .tuple #[.agg #[.bool false, .int .i64 0, .slice none 0 0], .bool false]) (by simp [results, Try.results14, go_sem, x0, x1, x2, Try.sizeOf38, Try.isAgg38]) rfl ⟨by rw [HD.out], S9.out.ext⟩
end Go.Proofs.Ytkekibnhmfmhmaa
/- An argument that is a graph, opened: what its slices read. -/
namespace Go.Proofs.Ytkekibnhmfmhmaa
open Go Go.RowKit Go.ChangeShapes Go.WideShapes Go.ChangeAt Go.Deep Go.Joins
theorem exists_list {α : Type} [Inhabited α] {n : Nat} {p : Nat → α → Prop} (h : ∀ i, i < n → ∃ x, p i x) : ∃ l : List α, l.length = n ∧ ∀ i, i < n → p i (nth l i) := by
  induction n with
  | zero => exact ⟨[], rfl, fun i hi => by omega⟩
  | succ n ih =>
    obtain ⟨l, hl, hp⟩ := ih fun i hi => h i (by omega)
    obtain ⟨x, hx⟩ := h n (by omega)
    refine ⟨l ++ [x], by simp [hl], fun i hi => ?_⟩
    by_cases e : i = n
    · subst e
      have : nth (l ++ [x]) i = x := by subst hl; exact nth_append_new _ _
      rw [this]; exact hx
    · rw [nth_append_left _ _ _ (by omega)]; exact hp i (by omega)
theorem spot_of_cell {w : World} {a : Addr} {v : Value} (h : w.cell? a = some v) : a = ⟨a.block, a.off, none⟩ := by
  unfold World.cell? at h
  split at h
  · split at h
    · cases h
    · rename_i hs
      obtain ⟨b, o, s⟩ := a
      cases s with
      | none => rfl
      | some s => simp at hs
  · cases h
theorem Rd.of_cells {w : World} {size n : Nat} {a : Addr} {xs : List Value} (h0 : 0 < size) (hlen : xs.length = n * size) (hs : n ≤ 9223372036854775807) (hc : ∀ j, j < n * size → w.cell? (a.add j) = some (xs.getD j undef)) : Rd w size (some a) n xs := by
  rcases Nat.eq_zero_or_pos n with hn | hn
  · subst hn
    have : xs = [] := List.eq_nil_of_length_eq_zero (by simpa using hlen)
    subst this
    exact Rd.nil _ _ _
  · have h1 := hc 0 (Nat.mul_pos hn h0)
    have ha := spot_of_cell (a := a) (by simpa [Addr.add] using h1)
    refine ⟨hlen, .inr ⟨_, _, by rw [ha]⟩, hs, fun j hj => ?_⟩
    rw [← hc j hj]
    congr 1
    rw [ha, adr_some]
    by_cases hj0 : j = 0
    · subst hj0; simp [Addr.add]
    · simp [Addr.add, hj0]
section
variable {H : Type} {enc : TypeId × Value → H} {w : World} {base : Nat} {spare : Nat → Bool} {held : Bool}
theorem open_slice_fields {P : Program} {t e : TypeId} {fs : Array Field} {fuel : Nat} {cs : List Value} {x : DataW H × List MemPlace} (ht : P.underlying t = some (.slice e)) (he : P.underlying e = some (.struct fs))
    (hone : oneCellFields P fs = true) (hC : P.cellsOf e = fs.size) (h : DataW.trod enc P w base spare held fuel t cs = some x) :
    (cs = [.slice none 0 0]) ∨
    ∃ (a : Addr) (len cap : Nat), cs = [.slice (some a) len cap] ∧ len ≤ cap ∧ cap ≤ maxLen ∧
      ∀ i, i < len → ∀ (j : Nat) (f : Field), fs[j]? = some f → ∃ (v : Value) (y : DataW H × List MemPlace) (n : Nat), w.cell? (a.add (i * fs.size + j)) = some v ∧ DataW.trod enc P w base spare held n f.type [v] = some y := by
  rcases open_slice ht h with h0 | ⟨a, len, cap, m, n, D, Pl, hcs, hb, hl, hm, hmm, hx, hi⟩
  · exact .inl h0.1
  · refine .inr ⟨a, len, cap, hcs, hl, hm, fun i hil j f hj => ?_⟩
    obtain ⟨cs', hc, ht'⟩ := hi i (by rw [hmm]; split <;> omega)
    rw [hC] at hc
    obtain ⟨ys, n', hn', hy, hlen, hyl, hf⟩ := DataW.trod_struct he ht'
    obtain ⟨_, hcl, hat⟩ := World.cells?_some hc
    obtain ⟨ho, hk⟩ := hone_of hone j f hj
    have hjl : j < fs.size := (Array.getElem?_eq_some_iff.1 hj).1
    have hcell := hat j hjl
    have hv : cs'[j]? = some (cs'[j]'(by omega)) := List.getElem?_eq_getElem (by omega)
    have h1 := hf j f hj
    rw [ho, hk] at h1
    have hone' : (cs'.drop j).take 1 = [cs'[j]'(by omega)] := by
      rw [List.drop_eq_getElem_cons (by omega)]
      rfl
    rw [hone'] at h1
    have hys : ys[j]? = some (ys[j]'(by omega)) := List.getElem?_eq_getElem (by omega)
    refine ⟨_, _, _, ?_, h1.trans hys⟩
    rw [← Go.Deep.add_add, hcell, hv]
theorem open_texts {t : TypeId} {fuel : Nat} {v : Value} {x : DataW H × List MemPlace} (ht : Try.prog.underlying t = some (.slice 9)) (h : DataW.trod enc Try.prog w base spare held fuel t [v] = some x) :
    ∃ p n c l, v = .slice p n c ∧ Rd w 1 p n (encS l) := by
  rcases open_slice ht h with h0 | ⟨a, len, cap, m, n, D, Pl, hcs, hb, hl, hm, hmm, hx, hi⟩
  · obtain ⟨h0, _⟩ := h0; simp at h0; exact ⟨none, 0, 0, [], h0, Rd.nil _ _ _⟩
  · simp at hcs
    have hl2 : len ≤ 9223372036854775807 := by unfold maxLen at hm; omega
    have hc1 : Try.prog.cellsOf 9 = 1 := by kernel_rfl
    rw [hc1] at hi
    have hS : ∀ i, i < len → ∃ s : ByteArray, w.cell? (a.add i) = some (.string s) := by
      intro i hil
      obtain ⟨cs', hc, ht'⟩ := hi i (by rw [hmm]; split <;> omega)
      obtain ⟨s, e1, _⟩ := DataW.trod_string Try.underlying9 ht'
      obtain ⟨_, hcl, hat⟩ := World.cells?_some hc
      have := hat 0 (by decide)
      rw [Go.Deep.add_add, Nat.mul_one, Nat.add_zero, e1] at this
      exact ⟨s, this⟩
    obtain ⟨l, hll, hlc⟩ := exists_list hS
    refine ⟨some a, len, cap, l, hcs, Rd.of_cells (by decide) (by rw [encS_len, hll, Nat.mul_one]) hl2 fun j hj => ?_⟩
    rw [encS_get l j (by omega)]
    exact hlc j (by omega)
theorem open_rows {t : TypeId} {fuel : Nat} {v : Value} {x : DataW H × List MemPlace} (ht : Try.prog.underlying t = some (.slice 22)) (h : DataW.trod enc Try.prog w base spare held fuel t [v] = some x) :
    ∃ p n c hs W, v = .slice p n c ∧ RdW w p n hs W := by
  rcases open_slice ht h with h0 | ⟨a, len, cap, m, n, D, Pl, hcs, hb, hl, hm, hmm, hx, hi⟩
  · obtain ⟨h0, _⟩ := h0; simp at h0; exact ⟨none, 0, 0, [], [], h0, rfl, Rd.nil _ _ _, fun j hj => by omega⟩
  · simp at hcs
    have hl2 : len ≤ 9223372036854775807 := by unfold maxLen at hm; omega
    have hc1 : Try.prog.cellsOf 22 = 1 := by kernel_rfl
    rw [hc1] at hi
    have hS : ∀ i, i < len → ∃ q : Hd × List ByteArray, w.cell? (a.add i) = some (.slice q.1.p q.1.n q.1.c) ∧ Rd w 1 q.1.p q.1.n (encS q.2) := by
      intro i hil
      obtain ⟨cs', hc, ht'⟩ := hi i (by rw [hmm]; split <;> omega)
      obtain ⟨_, hcl, hat⟩ := World.cells?_some hc
      match cs', hcl with
      | [u], _ =>
        obtain ⟨p, n', c', l, e1, hr⟩ := open_texts Try.underlying22 ht'
        have := hat 0 (by decide)
        rw [Go.Deep.add_add, Nat.mul_one, Nat.add_zero, e1] at this
        exact ⟨(⟨p, n', c'⟩, l), this, hr⟩
    obtain ⟨l, hll, hlc⟩ := exists_list hS
    have hm : ∀ i, i < len → nth (l.map (·.1)) i = (nth l i).1 ∧ nth (l.map (·.2)) i = (nth l i).2 := fun i hil => by
      rw [nth_eq (l := l.map (·.1)) (by rw [List.length_map]; omega), nth_eq (l := l.map (·.2)) (by rw [List.length_map]; omega), nth_eq (l := l) (by omega)]; simp
    refine ⟨some a, len, cap, l.map (·.1), l.map (·.2), hcs, by simp, Rd.of_cells (by decide) (by rw [encH_len, List.length_map, hll, Nat.mul_one]) hl2 fun j hj => ?_, fun j hj => ?_⟩
    · rw [encH_get _ j (by simp; omega), (hm j (by omega)).1]
      exact (hlc j (by omega)).1
    · rw [(hm j hj).1, (hm j hj).2]
      exact (hlc j hj).2
end
end Go.Proofs.Ytkekibnhmfmhmaa
/- Arguments that are rows of numbers, of texts, of postings: what they read. -/
namespace Go.Proofs.Ytkekibnhmfmhmaa
open Go Go.RowKit Go.ChangeShapes Go.WideShapes Go.ChangeAt Go.Deep Go.Joins
section
variable {H : Type} {enc : TypeId × Value → H} {w : World} {base : Nat} {spare : Nat → Bool} {held : Bool}
theorem trod_ints {t : TypeId} {fuel : Nat} {v : Value} {x : DataW H × List MemPlace} (ht : Try.prog.underlying t = some (.slice 3)) (h : DataW.trod enc Try.prog w base spare held fuel t [v] = some x) :
    ∃ p n c l, v = .slice p n c ∧ n ≤ c ∧ Rd w 1 p n (encI l) ∧ ∀ x ∈ l, I64 x := by
  rcases open_slice ht h with h0 | ⟨a, len, cap, m, n, D, Pl, hcs, hb, hl, hm, hmm, hx, hi⟩
  · obtain ⟨h0, _⟩ := h0; simp at h0; exact ⟨none, 0, 0, [], h0, Nat.le_refl _, Rd.nil _ _ _, fun x hx => nomatch hx⟩
  · simp at hcs
    have hl2 : len ≤ 9223372036854775807 := by unfold maxLen at hm; omega
    have hc1 : Try.prog.cellsOf 3 = 1 := by kernel_rfl
    rw [hc1] at hi
    have hS : ∀ i, i < len → ∃ s : Int, w.cell? (a.add i) = some (.int .i64 s) ∧ I64 s := by
      intro i hil
      obtain ⟨cs', hc, ht'⟩ := hi i (by rw [hmm]; split <;> omega)
      obtain ⟨s, e1, _, hw⟩ := DataW.trod_int Try.underlying3 ht'
      obtain ⟨_, hcl, hat⟩ := World.cells?_some hc
      have := hat 0 (by decide)
      rw [Go.Deep.add_add, Nat.mul_one, Nat.add_zero, e1] at this
      exact ⟨s, this, hw⟩
    obtain ⟨l, hll, hlc⟩ := exists_list hS
    refine ⟨some a, len, cap, l, hcs, hl, Rd.of_cells (by decide) (by rw [encI_len, hll, Nat.mul_one]) hl2 fun j hj => ?_, fun x hx => ?_⟩
    · rw [encI_get l j (by omega)]
      exact (hlc j (by omega)).1
    · obtain ⟨j, hj, rfl⟩ := List.mem_iff_getElem.1 hx
      rw [← nth_eq hj]
      exact (hlc j (by omega)).2
theorem trod_texts {t : TypeId} {fuel : Nat} {v : Value} {x : DataW H × List MemPlace} (ht : Try.prog.underlying t = some (.slice 9)) (h : DataW.trod enc Try.prog w base spare held fuel t [v] = some x) :
    ∃ p n c l, v = .slice p n c ∧ n ≤ c ∧ Rd w 1 p n (encS l) := by
  obtain ⟨p, n, c, l, rfl, hr⟩ := open_texts ht h
  refine ⟨p, n, c, l, rfl, ?_, hr⟩
  rcases open_slice ht h with h0 | ⟨a, len, cap, m, n', D, Pl, hcs, hb, hl, _⟩
  · obtain ⟨h0, _⟩ := h0; simp at h0; omega
  · simp at hcs; omega
set_option maxRecDepth 100000 in
theorem trod_postings {t : TypeId} {fuel : Nat} {v : Value} {x : DataW H × List MemPlace} (ht : Try.prog.underlying t = some (.slice 79)) (h : DataW.trod enc Try.prog w base spare held fuel t [v] = some x) :
    ∃ p n c hs L, v = .slice p n c ∧ n ≤ c ∧ RdP w p n hs L ∧ ∀ q ∈ L, ∀ x ∈ q.2, I64 x := by
  rcases open_slice_fields ht Try.underlying79 (by kernel_rfl) (by kernel_rfl) h with h0 | ⟨a, len, cap, hcs, hl, hm, hi⟩
  · simp at h0; exact ⟨none, 0, 0, [], [], h0, Nat.le_refl _, ⟨rfl, .inl rfl, by omega, fun k hk => by omega, fun k hk => by omega, fun k hk => by omega⟩, fun q hq => nomatch hq⟩
  · simp at hcs
    have hl2 : len ≤ 9223372036854775807 := by unfold maxLen at hm; omega
    have hE : ∀ i, i < len → ∃ e : (ByteArray × List Int) × Hd, w.cell? (a.add (i * 2)) = some (.string e.1.1) ∧ w.cell? (a.add (i * 2 + 1)) = some (.slice e.2.p e.2.n e.2.c) ∧ Rd w 1 e.2.p e.2.n (encI e.1.2) ∧ ∀ x ∈ e.1.2, I64 x := by
      intro i hil
      obtain ⟨v1, y1, n1, c1, t1⟩ := hi i hil 0 _ rfl
      obtain ⟨v2, y2, n2, c2, t2⟩ := hi i hil 1 _ rfl
      obtain ⟨s, e1, _⟩ := DataW.trod_string Try.underlying9 t1
      obtain ⟨p, n', c', l, e2, _, hr, hI⟩ := trod_ints Try.underlying51 t2
      simp at e1
      subst e1 e2
      exact ⟨((s, l), ⟨p, n', c'⟩), c1, c2, hr, hI⟩
    obtain ⟨E, hEl, hEc⟩ := exists_list hE
    have hm : ∀ i, i < len → nth (E.map (·.1)) i = (nth E i).1 ∧ nth (E.map (·.2)) i = (nth E i).2 := fun i hil => by
      rw [nth_eq (l := E.map (·.1)) (by rw [List.length_map]; omega), nth_eq (l := E.map (·.2)) (by rw [List.length_map]; omega), nth_eq (l := E) (by omega)]; simp
    have hptr : SlP (some a) len := by
      rcases Nat.eq_zero_or_pos len with h0 | h0
      · exact .inl h0
      · have h1 := (hEc 0 h0).1
        exact .inr ⟨_, _, by rw [spot_of_cell (a := a) (by simpa [Addr.add] using h1)]⟩
    have hadr : ∀ i j, i < len → a.add (i * 2 + j) = adr (some a) (i * 2 + j) := by
      intro i j hil
      have h1 := (hEc 0 (by omega)).1
      have ha := spot_of_cell (a := a) (by simpa [Addr.add] using h1)
      generalize i * 2 + j = m
      rw [ha, adr_some]
      by_cases hj0 : m = 0
      · rw [hj0]; simp [Addr.add]
      · simp [Addr.add, hj0]
    refine ⟨some a, len, cap, E.map (·.2), E.map (·.1), hcs, hl, ⟨by simp [hEl], hptr, hl2, fun k hk => ?_, fun k hk => ?_, fun k hk => ?_⟩, fun q hq => ?_⟩
    · rw [(hm k hk).1, ← Nat.add_zero (k * 2), ← hadr k 0 hk]; exact (hEc k hk).1
    · rw [(hm k hk).2, ← hadr k 1 hk]; exact (hEc k hk).2.1
    · rw [(hm k hk).1, (hm k hk).2]; exact (hEc k hk).2.2.1
    · obtain ⟨e, he, rfl⟩ := List.mem_map.1 hq
      obtain ⟨j, hj, rfl⟩ := List.mem_iff_getElem.1 he
      rw [← nth_eq hj]
      exact (hEc j (by omega)).2.2.2
set_option maxRecDepth 100000 in
theorem open_top {t e : TypeId} {r : Reach} {b0 : Nat} {v : Value} {d : DataW H} {p : List MemPlace} (ht : Try.prog.underlying t = some (.slice e)) (hv : Value.okWide Try.prog w r b0 t v) (h : DataW.Trod enc Try.prog w base spare held t v d p) :
    ∃ fuel, DataW.trod enc Try.prog w base spare held fuel t [v] = some (d, p) := by
  obtain ⟨a, n, c, rfl⟩ := okWide_slice ht hv
  exact h
set_option maxRecDepth 100000 in
theorem open_introw {r : Reach} {b0 : Nat} {v : Value} {d : DataW H} {p : List MemPlace} (hv : Value.okWide Try.prog w r b0 51 v) (h : DataW.Trod enc Try.prog w base spare held 51 v d p) :
    ∃ p n c l, v = .slice p n c ∧ n ≤ c ∧ Rd w 1 p n (encI l) ∧ ∀ x ∈ l, I64 x := by
  obtain ⟨f, hf⟩ := open_top Try.underlying51 hv h
  exact trod_ints Try.underlying51 hf
set_option maxRecDepth 100000 in
theorem open_textrow {r : Reach} {b0 : Nat} {v : Value} {d : DataW H} {p : List MemPlace} (hv : Value.okWide Try.prog w r b0 22 v) (h : DataW.Trod enc Try.prog w base spare held 22 v d p) :
    ∃ p n c l, v = .slice p n c ∧ n ≤ c ∧ Rd w 1 p n (encS l) := by
  obtain ⟨f, hf⟩ := open_top Try.underlying22 hv h
  exact trod_texts Try.underlying22 hf
set_option maxRecDepth 100000 in
theorem open_postings {r : Reach} {b0 : Nat} {v : Value} {d : DataW H} {p : List MemPlace} (hv : Value.okWide Try.prog w r b0 42 v) (h : DataW.Trod enc Try.prog w base spare held 42 v d p) :
    ∃ p n c hs L, v = .slice p n c ∧ n ≤ c ∧ RdP w p n hs L ∧ ∀ q ∈ L, ∀ x ∈ q.2, I64 x := by
  obtain ⟨f, hf⟩ := open_top Try.underlying42 hv h
  exact trod_postings Try.underlying42 hf
end
end Go.Proofs.Ytkekibnhmfmhmaa
/- Arguments that are queries, states, messages: what they read. -/
namespace Go.Proofs.Ytkekibnhmfmhmaa
open Go Go.RowKit Go.ChangeShapes Go.WideShapes Go.ChangeAt Go.Deep Go.Joins
/-- numbers that ints hold -/
def Sq.I (x : Sq) : Prop := I64 x.s ∧ I64 x.r ∧ I64 x.v ∧ I64 x.d
section
variable {H : Type} {enc : TypeId × Value → H} {w : World} {base : Nat} {spare : Nat → Bool} {held : Bool}
set_option maxRecDepth 100000 in
theorem trod_Key {fuel : Nat} {cs : List Value} {x : DataW H × List MemPlace} (h : DataW.trod enc Try.prog w base spare held fuel 44 cs = some x) : ∃ a b c : Int, cs = [.int .i64 a, .int .i64 b, .int .i64 c] ∧ I64 a ∧ I64 b ∧ I64 c := by
  obtain ⟨xs, n, _, _, hl, hx, hg⟩ := DataW.trod_struct Try.underlying44 h
  have hc : Try.prog.cellsOf 44 = 3 := by kernel_rfl
  have hi : Try.prog.cellsOf 3 = 1 := by kernel_rfl
  rw [hc] at hl
  match cs, hl, xs, hx with
  | [c0, c1, c2], _, [y0, y1, y2], _ =>
    have t0 : DataW.trod enc Try.prog w base spare held n 3 [c0] = some y0 := by simpa [hi] using hg 0 _ rfl
    have t1 : DataW.trod enc Try.prog w base spare held n 3 [c1] = some y1 := by simpa [hi] using hg 1 _ rfl
    have t2 : DataW.trod enc Try.prog w base spare held n 3 [c2] = some y2 := by simpa [hi] using hg 2 _ rfl
    obtain ⟨a, e0, _, i0⟩ := DataW.trod_int Try.underlying3 t0
    obtain ⟨b, e1, _, i1⟩ := DataW.trod_int Try.underlying3 t1
    obtain ⟨c, e2, _, i2⟩ := DataW.trod_int Try.underlying3 t2
    simp at e0 e1 e2
    subst e0 e1 e2
    exact ⟨a, b, c, rfl, i0, i1, i2⟩
set_option maxRecDepth 100000 in
theorem trod_State {fuel : Nat} {cs : List Value} {x : DataW H × List MemPlace} (h : DataW.trod enc Try.prog w base spare held fuel 46 cs = some x) : ∃ q : Sq, cs = [.int .i64 q.s, .int .i64 q.r, .int .i64 q.v, .int .i64 q.d] ∧ q.I := by
  obtain ⟨xs, n, _, _, hl, hx, hg⟩ := DataW.trod_struct Try.underlying46 h
  have hc : Try.prog.cellsOf 46 = 4 := by kernel_rfl
  have hk : Try.prog.cellsOf 44 = 3 := by kernel_rfl
  have hi : Try.prog.cellsOf 3 = 1 := by kernel_rfl
  rw [hc] at hl
  match cs, hl, xs, hx with
  | [c0, c1, c2, c3], _, [y0, y1], _ =>
    have t0 : DataW.trod enc Try.prog w base spare held n 44 [c0, c1, c2] = some y0 := by simpa [hk] using hg 0 _ rfl
    have t1 : DataW.trod enc Try.prog w base spare held n 3 [c3] = some y1 := by simpa [hi] using hg 1 _ rfl
    obtain ⟨a, b, c, e0, i0, i1, i2⟩ := trod_Key t0
    obtain ⟨d, e1, _, i3⟩ := DataW.trod_int Try.underlying3 t1
    simp at e0 e1
    obtain ⟨rfl, rfl, rfl⟩ := e0
    subst e1
    exact ⟨⟨a, b, c, d⟩, rfl, i0, i1, i2, i3⟩
set_option maxRecDepth 100000 in
theorem trod_Mail {fuel : Nat} {cs : List Value} {x : DataW H × List MemPlace} (h : DataW.trod enc Try.prog w base spare held fuel 57 cs = some x) : ∃ q : Sq, cs = [.int .i64 q.s, .int .i64 q.r, .int .i64 q.v, .int .i64 q.d] ∧ q.I := by
  obtain ⟨xs, n, _, _, hl, hx, hg⟩ := DataW.trod_struct Try.underlying57 h
  have hc : Try.prog.cellsOf 57 = 4 := by kernel_rfl
  have hk : Try.prog.cellsOf 44 = 3 := by kernel_rfl
  have hi : Try.prog.cellsOf 3 = 1 := by kernel_rfl
  rw [hc] at hl
  match cs, hl, xs, hx with
  | [c0, c1, c2, c3], _, [y0, y1], _ =>
    have t0 : DataW.trod enc Try.prog w base spare held n 44 [c0, c1, c2] = some y0 := by simpa [hk] using hg 0 _ rfl
    have t1 : DataW.trod enc Try.prog w base spare held n 3 [c3] = some y1 := by simpa [hi] using hg 1 _ rfl
    obtain ⟨a, b, c, e0, i0, i1, i2⟩ := trod_Key t0
    obtain ⟨d, e1, _, i3⟩ := DataW.trod_int Try.underlying3 t1
    simp at e0 e1
    obtain ⟨rfl, rfl, rfl⟩ := e0
    subst e1
    exact ⟨⟨a, b, c, d⟩, rfl, i0, i1, i2, i3⟩
set_option maxRecDepth 100000 in
theorem open_State {r : Reach} {b0 : Nat} {v : Value} {d : DataW H} {p : List MemPlace} (hv : Value.okWide Try.prog w r b0 46 v) (h : DataW.Trod enc Try.prog w base spare held 46 v d p) : ∃ q : Sq, v = .agg #[.int .i64 q.s, .int .i64 q.r, .int .i64 q.v, .int .i64 q.d] ∧ q.I := by
  obtain ⟨cs, rfl, hsz⟩ := okWide_struct Try.underlying46 hv
  obtain ⟨fuel, hf⟩ := h
  obtain ⟨q, e, hq⟩ := trod_State hf
  refine ⟨q, ?_, hq⟩
  obtain ⟨l⟩ := cs
  simp [Value.cells] at e
  rw [e]
theorem adr_of_cell {a : Addr} {v : Value} {m : Nat} (h : w.cell? a = some v) : a.add m = adr (some a) m := by
  have ha := spot_of_cell h
  rw [ha, adr_some]
  by_cases hj0 : m = 0
  · rw [hj0]; simp [Addr.add]
  · simp [Addr.add, hj0]
set_option maxRecDepth 100000 in
theorem trod_States {t : TypeId} {fuel : Nat} {v : Value} {x : DataW H × List MemPlace} (ht : Try.prog.underlying t = some (.slice 46)) (h : DataW.trod enc Try.prog w base spare held fuel t [v] = some x) : ∃ p n c l, v = .slice p n c ∧ n ≤ c ∧ Rd w 4 p n (encQ l) ∧ ∀ q ∈ l, q.I := by
  rcases open_slice ht h with h0 | ⟨a, len, cap, m, n, D, Pl, hcs, hb, hl, hm, hmm, hx, hi⟩
  · obtain ⟨h0, _⟩ := h0; simp at h0; exact ⟨none, 0, 0, [], h0, Nat.le_refl _, Rd.nil _ _ _, fun x hx => nomatch hx⟩
  · simp at hcs
    have hl2 : len ≤ 9223372036854775807 := by unfold maxLen at hm; omega
    have hc1 : Try.prog.cellsOf 46 = 4 := by kernel_rfl
    rw [hc1] at hi
    have hS : ∀ i, i < len → ∃ q : Sq, (w.cell? (a.add (i * 4)) = some (.int .i64 q.s) ∧ w.cell? (a.add (i * 4 + 1)) = some (.int .i64 q.r) ∧ w.cell? (a.add (i * 4 + 2)) = some (.int .i64 q.v) ∧ w.cell? (a.add (i * 4 + 3)) = some (.int .i64 q.d)) ∧ q.I := by
      intro i hil
      obtain ⟨cs', hc, ht'⟩ := hi i (by rw [hmm]; split <;> omega)
      obtain ⟨q, e1, hq⟩ := trod_State ht'
      obtain ⟨_, hcl, hat⟩ := World.cells?_some hc
      subst e1
      have h0 := hat 0 (by decide)
      have h1 := hat 1 (by decide)
      have h2 := hat 2 (by decide)
      have h3 := hat 3 (by decide)
      rw [Go.Deep.add_add] at h0 h1 h2 h3
      exact ⟨q, ⟨h0, h1, h2, h3⟩, hq⟩
    obtain ⟨l, hll, hlc⟩ := exists_list hS
    refine ⟨some a, len, cap, l, hcs, hl, Rd.of_cells (by decide) (by rw [encQ_len, hll]) hl2 fun j hj => ?_, fun x hx => ?_⟩
    · have hd : j / 4 < len := by omega
      obtain ⟨g1, g2, g3, g4⟩ := encQ_get l (j / 4) (by omega)
      obtain ⟨⟨h1, h2, h3, h4⟩, _⟩ := hlc (j / 4) hd
      have hm2 : j = j / 4 * 4 ∨ j = j / 4 * 4 + 1 ∨ j = j / 4 * 4 + 2 ∨ j = j / 4 * 4 + 3 := by omega
      rcases hm2 with e | e | e | e
      · rw [e, g1]; exact h1
      · rw [e, g2]; exact h2
      · rw [e, g3]; exact h3
      · rw [e, g4]; exact h4
    · obtain ⟨j, hj, rfl⟩ := List.mem_iff_getElem.1 hx
      rw [← nth_eq hj]
      exact (hlc j (by omega)).2
set_option maxRecDepth 100000 in
theorem trod_Mails {t : TypeId} {fuel : Nat} {v : Value} {x : DataW H × List MemPlace} (ht : Try.prog.underlying t = some (.slice 57)) (h : DataW.trod enc Try.prog w base spare held fuel t [v] = some x) : ∃ p n c l, v = .slice p n c ∧ n ≤ c ∧ Rd w 4 p n (encQ l) ∧ ∀ q ∈ l, q.I := by
  rcases open_slice ht h with h0 | ⟨a, len, cap, m, n, D, Pl, hcs, hb, hl, hm, hmm, hx, hi⟩
  · obtain ⟨h0, _⟩ := h0; simp at h0; exact ⟨none, 0, 0, [], h0, Nat.le_refl _, Rd.nil _ _ _, fun x hx => nomatch hx⟩
  · simp at hcs
    have hl2 : len ≤ 9223372036854775807 := by unfold maxLen at hm; omega
    have hc1 : Try.prog.cellsOf 57 = 4 := by kernel_rfl
    rw [hc1] at hi
    have hS : ∀ i, i < len → ∃ q : Sq, (w.cell? (a.add (i * 4)) = some (.int .i64 q.s) ∧ w.cell? (a.add (i * 4 + 1)) = some (.int .i64 q.r) ∧ w.cell? (a.add (i * 4 + 2)) = some (.int .i64 q.v) ∧ w.cell? (a.add (i * 4 + 3)) = some (.int .i64 q.d)) ∧ q.I := by
      intro i hil
      obtain ⟨cs', hc, ht'⟩ := hi i (by rw [hmm]; split <;> omega)
      obtain ⟨q, e1, hq⟩ := trod_Mail ht'
      obtain ⟨_, hcl, hat⟩ := World.cells?_some hc
      subst e1
      have h0 := hat 0 (by decide)
      have h1 := hat 1 (by decide)
      have h2 := hat 2 (by decide)
      have h3 := hat 3 (by decide)
      rw [Go.Deep.add_add] at h0 h1 h2 h3
      exact ⟨q, ⟨h0, h1, h2, h3⟩, hq⟩
    obtain ⟨l, hll, hlc⟩ := exists_list hS
    refine ⟨some a, len, cap, l, hcs, hl, Rd.of_cells (by decide) (by rw [encQ_len, hll]) hl2 fun j hj => ?_, fun x hx => ?_⟩
    · have hd : j / 4 < len := by omega
      obtain ⟨g1, g2, g3, g4⟩ := encQ_get l (j / 4) (by omega)
      obtain ⟨⟨h1, h2, h3, h4⟩, _⟩ := hlc (j / 4) hd
      have hm2 : j = j / 4 * 4 ∨ j = j / 4 * 4 + 1 ∨ j = j / 4 * 4 + 2 ∨ j = j / 4 * 4 + 3 := by omega
      rcases hm2 with e | e | e | e
      · rw [e, g1]; exact h1
      · rw [e, g2]; exact h2
      · rw [e, g3]; exact h3
      · rw [e, g4]; exact h4
    · obtain ⟨j, hj, rfl⟩ := List.mem_iff_getElem.1 hx
      rw [← nth_eq hj]
      exact (hlc j (by omega)).2
set_option maxRecDepth 100000 in
theorem open_States {r : Reach} {b0 : Nat} {v : Value} {d : DataW H} {p : List MemPlace} (hv : Value.okWide Try.prog w r b0 33 v) (h : DataW.Trod enc Try.prog w base spare held 33 v d p) : ∃ p n c l, v = .slice p n c ∧ n ≤ c ∧ Rd w 4 p n (encQ l) ∧ ∀ q ∈ l, q.I := by
  obtain ⟨f, hf⟩ := open_top Try.underlying33 hv h
  exact trod_States Try.underlying33 hf
set_option maxRecDepth 100000 in
theorem open_Mails {r : Reach} {b0 : Nat} {v : Value} {d : DataW H} {p : List MemPlace} (hv : Value.okWide Try.prog w r b0 29 v) (h : DataW.Trod enc Try.prog w base spare held 29 v d p) : ∃ p n c l, v = .slice p n c ∧ n ≤ c ∧ Rd w 4 p n (encQ l) ∧ ∀ q ∈ l, q.I := by
  obtain ⟨f, hf⟩ := open_top Try.underlying29 hv h
  exact trod_Mails Try.underlying29 hf
set_option maxRecDepth 100000 in
/-- a query by value -/
theorem open_query {r : Reach} {b0 : Nat} {v : Value} {d : DataW H} {p : List MemPlace} (hv : Value.okWide Try.prog w r b0 24 v) (h : DataW.Trod enc Try.prog w base spare held 24 v d p) :
    ∃ k f t pw nw cw ws rad most, v = .agg #[.int .i64 k, .int .i64 f, .int .i64 t, .slice pw nw cw, .int .i64 rad, .int .i64 most] ∧ nw ≤ cw ∧ Rd w 1 pw nw (encS ws) ∧ (I64 k ∧ I64 f ∧ I64 t) ∧ I64 rad ∧ I64 most := by
  obtain ⟨cs, rfl, hsz⟩ := okWide_struct Try.underlying24 hv
  obtain ⟨fuel, hf⟩ := h
  obtain ⟨xs, n, _, _, hl, hx, hg⟩ := DataW.trod_struct Try.underlying24 hf
  have hc : Try.prog.cellsOf 24 = 6 := by kernel_rfl
  have hi : Try.prog.cellsOf 3 = 1 := by kernel_rfl
  have hs : Try.prog.cellsOf 22 = 1 := by kernel_rfl
  rw [hc] at hsz
  obtain ⟨l⟩ := cs
  match l, hsz, xs, hx with
  | [c0, c1, c2, c3, c4, c5], _, [y0, y1, y2, y3, y4, y5], _ =>
    have t0 : DataW.trod enc Try.prog w base spare held n 3 [c0] = some y0 := by simpa [hi, Value.cells] using hg 0 _ rfl
    have t1 : DataW.trod enc Try.prog w base spare held n 3 [c1] = some y1 := by simpa [hi, Value.cells] using hg 1 _ rfl
    have t2 : DataW.trod enc Try.prog w base spare held n 3 [c2] = some y2 := by simpa [hi, Value.cells] using hg 2 _ rfl
    have t3 : DataW.trod enc Try.prog w base spare held n 22 [c3] = some y3 := by simpa [hs, Value.cells] using hg 3 _ rfl
    have t4 : DataW.trod enc Try.prog w base spare held n 3 [c4] = some y4 := by simpa [hi, Value.cells] using hg 4 _ rfl
    have t5 : DataW.trod enc Try.prog w base spare held n 3 [c5] = some y5 := by simpa [hi, Value.cells] using hg 5 _ rfl
    obtain ⟨a0, e0, _, i0⟩ := DataW.trod_int Try.underlying3 t0
    obtain ⟨a1, e1, _, i1⟩ := DataW.trod_int Try.underlying3 t1
    obtain ⟨a2, e2, _, i2⟩ := DataW.trod_int Try.underlying3 t2
    obtain ⟨pw, nw, cw, ws, rfl, hn, hr⟩ := trod_texts Try.underlying22 t3
    obtain ⟨a4, e4, _, i4⟩ := DataW.trod_int Try.underlying3 t4
    obtain ⟨a5, e5, _, i5⟩ := DataW.trod_int Try.underlying3 t5
    simp at e0 e1 e2 e4 e5
    subst e0 e1 e2 e4 e5
    exact ⟨a0, a1, a2, pw, nw, cw, ws, a4, a5, rfl, hn, hr, ⟨i0, i1, i2⟩, i4, i5⟩
end
end Go.Proofs.Ytkekibnhmfmhmaa
/- The law ProgFinds: with more states of the kind 1 or 2 what was found is found still, and no further. -/
namespace Go.Proofs.Ytkekibnhmfmhmaa
open Go Go.RowKit
/-- what is found, of the kinds 1 and 2 -/
def FoundS (k t : Int) (l : List Sq) (b : Bool) (d : Int) : Prop := (k = 1 → MeetA l b d) ∧ (k = 2 → b = atS l t ∧ d = 0)
theorem found_mono {k t : Int} {l m : List Sq} {b : Bool} {d d' : Int} (hk : k = 1 ∨ k = 2) (h : FoundS k t l true d) (h' : FoundS k t (l ++ m) b d') : b = true ∧ d' ≤ d := by
  rcases hk with hk | hk
  · have h1 := h.1 hk
    have h2 := h'.1 hk
    have hp : PairD (l ++ m) d := by
      obtain ⟨x, hx, y, hy, r⟩ := (h1.2 rfl).1
      exact ⟨x, List.mem_append_left _ hx, y, List.mem_append_left _ hy, r⟩
    cases b with
    | false => exact absurd hp ((h2.1 rfl).2 _)
    | true => exact ⟨rfl, (h2.2 rfl).2 _ hp⟩
  · obtain ⟨h1, h2⟩ := h.2 hk
    obtain ⟨h3, h4⟩ := h'.2 hk
    refine ⟨?_, by omega⟩
    rw [h3]
    obtain ⟨x, hx, r⟩ := atS_iff.1 h1.symm
    exact atS_iff.2 ⟨x, List.mem_append_left _ hx, r⟩
theorem Done12 (k f t : Int) (pw : Option Addr) (nw cw : Nat) (rad most : Int) (pl : Option Addr) (nl cl : Nat) (p : Option Addr) (n c : Nat) (l : List Sq) (pm : Option Addr) (nm cm : Nat) (M : List Sq) (w : World) (hk : k = 1 ∨ k = 2) (hl : Rd w 4 p n (encQ l)) (hM : Rd w 4 pm nm (encQ M)) (hi : ∀ x ∈ l, x.I) (hb : ∀ x ∈ l, -1000000 ≤ x.d ∧ x.d ≤ 1000000) (hn : n ≤ 1000000) (ht : I64 t) :
    Calls Try.prog 14 #[.agg #[.int .i64 k, .int .i64 f, .int .i64 t, .slice pw nw cw, .int .i64 rad, .int .i64 most], .slice pl nl cl, .slice p n c, .slice pm nm cm] w fun e w' => ∃ b d dn, e = .returned (.tuple #[.agg #[.bool b, .int .i64 d, .slice none 0 0], .bool dn]) ∧ (b = true → dn = true) ∧ Ext w w' ∧ FoundS k t l b d := by
  have hi2 : ∀ x ∈ l, I64 x.v ∧ I64 x.d := fun x hx => ⟨(hi x hx).2.2.1, (hi x hx).2.2.2⟩
  rcases hk with rfl | rfl
  · refine (Done1 f t pw nw cw rad most pl nl cl p n c l pm nm cm M w hl hM hi2 hb hn).mono ?_
    rintro e w' ⟨b, d, rfl, hE, hA⟩
    exact ⟨b, d, _, rfl, fun h => by rw [h]; rfl, hE, fun _ => hA, fun h => absurd h (by decide)⟩
  · refine (Done2 f t pw nw cw rad most pl nl cl p n c l pm nm cm w hl hi2 hn ht).mono ?_
    rintro e w' ⟨rfl, hE⟩
    exact ⟨_, _, _, rfl, fun h => by rw [h]; rfl, hE, fun h => absurd h (by decide), fun _ => ⟨rfl, rfl⟩⟩
theorem infState : (Try.prog.info? 46).map (fun i => (i.zero, i.size, i.bytes)) = some (some (.agg #[.int .i64 0, .int .i64 0, .int .i64 0, .int .i64 0]), 4, 32) := by kernel_rfl
theorem rdp0 (w : World) : RdP w none 0 [] [] := ⟨rfl, .inl rfl, by omega, fun k hk => by omega, fun k hk => by omega, fun k hk => by omega⟩
set_option maxRecDepth 100000 in
set_option maxHeartbeats 16000000 in
theorem lawFinds18 (k f t : Int) (pw : Option Addr) (nw cw : Nat) (ws : List ByteArray) (rad most : Int) (px : Option Addr) (nx cx : Nat) (l : List Sq) (py : Option Addr) (ny cy : Nat) (m : List Sq) (pm : Option Addr) (nm cm : Nat) (M : List Sq) (w : World) (hw : Rd w 1 pw nw (encS ws)) (ht : I64 t) (hX : Rd w 4 px nx (encQ l)) (hxI : ∀ x ∈ l, x.I) (hY : Rd w 4 py ny (encQ m)) (hyI : ∀ x ∈ m, x.I) (hM : Rd w 4 pm nm (encQ M)) :
    Calls Try.prog 4 #[.agg #[.int .i64 k, .int .i64 f, .int .i64 t, .slice pw nw cw, .int .i64 rad, .int .i64 most], .slice px nx cx, .slice py ny cy, .slice pm nm cm] w fun e w' => e = .returned (.bool true) ∧ Ext w w' := by
  have S0 := Lib.hid ((Sep.start w).al #[.int .i64 k, .int .i64 f, .int .i64 t, .slice pw nw cw, .int .i64 rad, .int .i64 most] 24 w.heap.size rfl)
  have HBG := Lib.hid (fun W (h : Ext w W) => BigQ k f t pw nw cw ws rad most W (hw.ext h))
  have HFR := Lib.hid (fun W (_ : Ext w W) => FarS none 0 0 [] [] px nx cx pm nm cm W (rdp0 W))
  have HC1 := Lib.hid (fun W (h : Ext w W) => CleanQ px nx cx l W (hX.ext h))
  have HC2 := Lib.hid (fun W (h : Ext w W) => CleanQ py ny cy m W (hY.ext h))
  cases hbig : bigQ ws with
  | true =>
    rw [hbig] at HBG
    clear hw hX hY hM hbig
    go_enter Try.func4, Try.ntmps4
    go_wp2_with (first | (go_at_call 13; have _t := tok1; go_must (refine (HC2.out _ S2.out.ext).mono ?_; rintro e w3 ⟨rfl, hw3⟩; have hw3 := hw3.symm; subst hw3)) | (go_at_call 13; go_must (refine (HC1.out _ S2.out.ext).mono ?_; rintro e w3 ⟨rfl, hw3⟩; have tok1 : True := trivial; have hw3 := hw3.symm; subst hw3)) | (go_at_call 12; go_must (refine (HFR.out _ S1.out.ext).mono ?_; rintro e w2 ⟨rfl, hb⟩; have S2 := Lib.hid (S1.out.call hb); clear a0 a1 a2 a3 a4 a5 az; have a0 := (S2.out.blk 0 rfl).cell 0; have a1 := (S2.out.blk 0 rfl).cell 1; have a2 := (S2.out.blk 0 rfl).cell 2; have a3 := (S2.out.blk 0 rfl).cell 3; have a4 := (S2.out.blk 0 rfl).cell 4; have a5 := (S2.out.blk 0 rfl).cell 5; have az := (S2.out.blk 0 rfl).lt; clear hb)) | (go_at_call 7; go_must (refine (HBG.out _ S0.out.ext).mono ?_; rintro e w1 ⟨rfl, hb⟩; have S1 := Lib.hid (S0.out.call hb); have a0 := (S1.out.blk 0 rfl).cell 0; have a1 := (S1.out.blk 0 rfl).cell 1; have a2 := (S1.out.blk 0 rfl).cell 2; have a3 := (S1.out.blk 0 rfl).cell 3; have a4 := (S1.out.blk 0 rfl).cell 4; have a5 := (S1.out.blk 0 rfl).cell 5; have az := (S1.out.blk 0 rfl).lt; clear hb)))
    go_ret
    exact ⟨rfl, S1.out.ext⟩
  | false =>
    rw [hbig] at HBG
    cases hfar : farS [] nx nm with
    | true =>
      rw [hfar] at HFR
      clear hw hX hY hM hbig hfar
      go_enter Try.func4, Try.ntmps4
      go_wp2_with (first | (go_at_call 13; have _t := tok1; go_must (refine (HC2.out _ S2.out.ext).mono ?_; rintro e w3 ⟨rfl, hw3⟩; have hw3 := hw3.symm; subst hw3)) | (go_at_call 13; go_must (refine (HC1.out _ S2.out.ext).mono ?_; rintro e w3 ⟨rfl, hw3⟩; have tok1 : True := trivial; have hw3 := hw3.symm; subst hw3)) | (go_at_call 12; go_must (refine (HFR.out _ S1.out.ext).mono ?_; rintro e w2 ⟨rfl, hb⟩; have S2 := Lib.hid (S1.out.call hb); clear a0 a1 a2 a3 a4 a5 az; have a0 := (S2.out.blk 0 rfl).cell 0; have a1 := (S2.out.blk 0 rfl).cell 1; have a2 := (S2.out.blk 0 rfl).cell 2; have a3 := (S2.out.blk 0 rfl).cell 3; have a4 := (S2.out.blk 0 rfl).cell 4; have a5 := (S2.out.blk 0 rfl).cell 5; have az := (S2.out.blk 0 rfl).lt; clear hb)) | (go_at_call 7; go_must (refine (HBG.out _ S0.out.ext).mono ?_; rintro e w1 ⟨rfl, hb⟩; have S1 := Lib.hid (S0.out.call hb); have a0 := (S1.out.blk 0 rfl).cell 0; have a1 := (S1.out.blk 0 rfl).cell 1; have a2 := (S1.out.blk 0 rfl).cell 2; have a3 := (S1.out.blk 0 rfl).cell 3; have a4 := (S1.out.blk 0 rfl).cell 4; have a5 := (S1.out.blk 0 rfl).cell 5; have az := (S1.out.blk 0 rfl).lt; clear hb)))
      go_ret
      exact ⟨rfl, S2.out.ext⟩
    | false =>
      rw [hfar] at HFR
      by_cases h60 : 60 < ny
      · have e1 : decide ((60:Int) < (ny:Int)) = true := by simp; omega
        clear hw hX hY hM hbig hfar
        go_enter Try.func4, Try.ntmps4
        go_wp2_with (first | (go_at_call 13; have _t := tok1; go_must (refine (HC2.out _ S2.out.ext).mono ?_; rintro e w3 ⟨rfl, hw3⟩; have hw3 := hw3.symm; subst hw3)) | (go_at_call 13; go_must (refine (HC1.out _ S2.out.ext).mono ?_; rintro e w3 ⟨rfl, hw3⟩; have tok1 : True := trivial; have hw3 := hw3.symm; subst hw3)) | (go_at_call 12; go_must (refine (HFR.out _ S1.out.ext).mono ?_; rintro e w2 ⟨rfl, hb⟩; have S2 := Lib.hid (S1.out.call hb); clear a0 a1 a2 a3 a4 a5 az; have a0 := (S2.out.blk 0 rfl).cell 0; have a1 := (S2.out.blk 0 rfl).cell 1; have a2 := (S2.out.blk 0 rfl).cell 2; have a3 := (S2.out.blk 0 rfl).cell 3; have a4 := (S2.out.blk 0 rfl).cell 4; have a5 := (S2.out.blk 0 rfl).cell 5; have az := (S2.out.blk 0 rfl).lt; clear hb)) | (go_at_call 7; go_must (refine (HBG.out _ S0.out.ext).mono ?_; rintro e w1 ⟨rfl, hb⟩; have S1 := Lib.hid (S0.out.call hb); have a0 := (S1.out.blk 0 rfl).cell 0; have a1 := (S1.out.blk 0 rfl).cell 1; have a2 := (S1.out.blk 0 rfl).cell 2; have a3 := (S1.out.blk 0 rfl).cell 3; have a4 := (S1.out.blk 0 rfl).cell 4; have a5 := (S1.out.blk 0 rfl).cell 5; have az := (S1.out.blk 0 rfl).lt; clear hb)))
        go_ret
        exact ⟨rfl, S2.out.ext⟩
      · have e1 : decide ((60:Int) < (ny:Int)) = false := by simp; omega
        have e1n : decide (60 < ny) = false := by simpa using h60
        cases hc1 : cleanB l with
        | false =>
          rw [hc1] at HC1
          clear hw hX hY hM hbig hfar hc1 h60
          go_enter Try.func4, Try.ntmps4
          go_wp2_with (first | (go_at_call 13; have _t := tok1; go_must (refine (HC2.out _ S2.out.ext).mono ?_; rintro e w3 ⟨rfl, hw3⟩; have hw3 := hw3.symm; subst hw3)) | (go_at_call 13; go_must (refine (HC1.out _ S2.out.ext).mono ?_; rintro e w3 ⟨rfl, hw3⟩; have tok1 : True := trivial; have hw3 := hw3.symm; subst hw3)) | (go_at_call 12; go_must (refine (HFR.out _ S1.out.ext).mono ?_; rintro e w2 ⟨rfl, hb⟩; have S2 := Lib.hid (S1.out.call hb); clear a0 a1 a2 a3 a4 a5 az; have a0 := (S2.out.blk 0 rfl).cell 0; have a1 := (S2.out.blk 0 rfl).cell 1; have a2 := (S2.out.blk 0 rfl).cell 2; have a3 := (S2.out.blk 0 rfl).cell 3; have a4 := (S2.out.blk 0 rfl).cell 4; have a5 := (S2.out.blk 0 rfl).cell 5; have az := (S2.out.blk 0 rfl).lt; clear hb)) | (go_at_call 7; go_must (refine (HBG.out _ S0.out.ext).mono ?_; rintro e w1 ⟨rfl, hb⟩; have S1 := Lib.hid (S0.out.call hb); have a0 := (S1.out.blk 0 rfl).cell 0; have a1 := (S1.out.blk 0 rfl).cell 1; have a2 := (S1.out.blk 0 rfl).cell 2; have a3 := (S1.out.blk 0 rfl).cell 3; have a4 := (S1.out.blk 0 rfl).cell 4; have a5 := (S1.out.blk 0 rfl).cell 5; have az := (S1.out.blk 0 rfl).lt; clear hb)))
          go_ret
          exact ⟨rfl, S2.out.ext⟩
        | true =>
          rw [hc1] at HC1
          cases hc2 : cleanB m with
          | false =>
            rw [hc2] at HC2
            clear hw hX hY hM hbig hfar hc1 hc2 h60
            go_enter Try.func4, Try.ntmps4
            go_wp2_with (first | (go_at_call 13; have _t := tok1; go_must (refine (HC2.out _ S2.out.ext).mono ?_; rintro e w3 ⟨rfl, hw3⟩; have hw3 := hw3.symm; subst hw3)) | (go_at_call 13; go_must (refine (HC1.out _ S2.out.ext).mono ?_; rintro e w3 ⟨rfl, hw3⟩; have tok1 : True := trivial; have hw3 := hw3.symm; subst hw3)) | (go_at_call 12; go_must (refine (HFR.out _ S1.out.ext).mono ?_; rintro e w2 ⟨rfl, hb⟩; have S2 := Lib.hid (S1.out.call hb); clear a0 a1 a2 a3 a4 a5 az; have a0 := (S2.out.blk 0 rfl).cell 0; have a1 := (S2.out.blk 0 rfl).cell 1; have a2 := (S2.out.blk 0 rfl).cell 2; have a3 := (S2.out.blk 0 rfl).cell 3; have a4 := (S2.out.blk 0 rfl).cell 4; have a5 := (S2.out.blk 0 rfl).cell 5; have az := (S2.out.blk 0 rfl).lt; clear hb)) | (go_at_call 7; go_must (refine (HBG.out _ S0.out.ext).mono ?_; rintro e w1 ⟨rfl, hb⟩; have S1 := Lib.hid (S0.out.call hb); have a0 := (S1.out.blk 0 rfl).cell 0; have a1 := (S1.out.blk 0 rfl).cell 1; have a2 := (S1.out.blk 0 rfl).cell 2; have a3 := (S1.out.blk 0 rfl).cell 3; have a4 := (S1.out.blk 0 rfl).cell 4; have a5 := (S1.out.blk 0 rfl).cell 5; have az := (S1.out.blk 0 rfl).lt; clear hb)))
            go_ret
            exact ⟨rfl, S2.out.ext⟩
          | true =>
            rw [hc2] at HC2
            by_cases k1 : k < 1
            · clear hw hX hY hM hbig hfar hc1 hc2 h60
              go_enter Try.func4, Try.ntmps4
              go_wp2_with (first | (go_at_call 13; have _t := tok1; go_must (refine (HC2.out _ S2.out.ext).mono ?_; rintro e w3 ⟨rfl, hw3⟩; have hw3 := hw3.symm; subst hw3)) | (go_at_call 13; go_must (refine (HC1.out _ S2.out.ext).mono ?_; rintro e w3 ⟨rfl, hw3⟩; have tok1 : True := trivial; have hw3 := hw3.symm; subst hw3)) | (go_at_call 12; go_must (refine (HFR.out _ S1.out.ext).mono ?_; rintro e w2 ⟨rfl, hb⟩; have S2 := Lib.hid (S1.out.call hb); clear a0 a1 a2 a3 a4 a5 az; have a0 := (S2.out.blk 0 rfl).cell 0; have a1 := (S2.out.blk 0 rfl).cell 1; have a2 := (S2.out.blk 0 rfl).cell 2; have a3 := (S2.out.blk 0 rfl).cell 3; have a4 := (S2.out.blk 0 rfl).cell 4; have a5 := (S2.out.blk 0 rfl).cell 5; have az := (S2.out.blk 0 rfl).lt; clear hb)) | (go_at_call 7; go_must (refine (HBG.out _ S0.out.ext).mono ?_; rintro e w1 ⟨rfl, hb⟩; have S1 := Lib.hid (S0.out.call hb); have a0 := (S1.out.blk 0 rfl).cell 0; have a1 := (S1.out.blk 0 rfl).cell 1; have a2 := (S1.out.blk 0 rfl).cell 2; have a3 := (S1.out.blk 0 rfl).cell 3; have a4 := (S1.out.blk 0 rfl).cell 4; have a5 := (S1.out.blk 0 rfl).cell 5; have az := (S1.out.blk 0 rfl).lt; clear hb)))
              go_ret
              exact ⟨rfl, S2.out.ext⟩
            · have e2 : decide (k < 1) = false := by simpa using k1
              by_cases k2 : 2 < k
              · clear hw hX hY hM hbig hfar hc1 hc2 h60 k1
                go_enter Try.func4, Try.ntmps4
                go_wp2_with (first | (go_at_call 13; have _t := tok1; go_must (refine (HC2.out _ S2.out.ext).mono ?_; rintro e w3 ⟨rfl, hw3⟩; have hw3 := hw3.symm; subst hw3)) | (go_at_call 13; go_must (refine (HC1.out _ S2.out.ext).mono ?_; rintro e w3 ⟨rfl, hw3⟩; have tok1 : True := trivial; have hw3 := hw3.symm; subst hw3)) | (go_at_call 12; go_must (refine (HFR.out _ S1.out.ext).mono ?_; rintro e w2 ⟨rfl, hb⟩; have S2 := Lib.hid (S1.out.call hb); clear a0 a1 a2 a3 a4 a5 az; have a0 := (S2.out.blk 0 rfl).cell 0; have a1 := (S2.out.blk 0 rfl).cell 1; have a2 := (S2.out.blk 0 rfl).cell 2; have a3 := (S2.out.blk 0 rfl).cell 3; have a4 := (S2.out.blk 0 rfl).cell 4; have a5 := (S2.out.blk 0 rfl).cell 5; have az := (S2.out.blk 0 rfl).lt; clear hb)) | (go_at_call 7; go_must (refine (HBG.out _ S0.out.ext).mono ?_; rintro e w1 ⟨rfl, hb⟩; have S1 := Lib.hid (S0.out.call hb); have a0 := (S1.out.blk 0 rfl).cell 0; have a1 := (S1.out.blk 0 rfl).cell 1; have a2 := (S1.out.blk 0 rfl).cell 2; have a3 := (S1.out.blk 0 rfl).cell 3; have a4 := (S1.out.blk 0 rfl).cell 4; have a5 := (S1.out.blk 0 rfl).cell 5; have az := (S1.out.blk 0 rfl).lt; clear hb)))
                go_ret
                exact ⟨rfl, S2.out.ext⟩
              · have e3 : decide (2 < k) = false := by simpa using k2
                have hk : k = 1 ∨ k = 2 := by omega
                have hnx : nx ≤ 60 := by
                  unfold farS at hfar
                  rw [Bool.or_eq_false_iff, Bool.or_eq_false_iff, decide_eq_false_iff_not] at hfar
                  omega
                have hny : ny ≤ 60 := by omega
                obtain ⟨i0, hi0, hz0, hz1, hz2⟩ := info_parts infState
                have HX := Lib.hid (fun W (h : Ext w W) => hX.ext h)
                have HY := Lib.hid (fun W (h : Ext w W) => hY.ext h)
                have hb1 := clean_facts hc1
                have hb2 := clean_facts hc2
                have HD1 := Lib.hid (fun W (h : Ext w W) => Done12 k f t pw nw cw rad most none 0 0 px nx cx l pm nm cm M W hk (hX.ext h) (hM.ext h) hxI hb1 (by omega) ht)
                have HD2 := Lib.hid (fun q c W (h : Ext w W ∧ Rd W 4 q (nx + ny) (encQ (l ++ m))) => Done12 k f t pw nw cw rad most none 0 0 q (nx + ny) c (l ++ m) pm nm cm M W hk h.2 (hM.ext h.1) (fun x hx => (List.mem_append.1 hx).elim (hxI x) (hyI x)) (fun x hx => (List.mem_append.1 hx).elim (hb1 x) (hb2 x)) (by omega) ht)
                have RDA : ∀ {W : World} {q : Option Addr} {c : Nat} {a b : Pc}, Sep w W [a, .own 46 4 q (nx + ny) c (encQ l ++ encQ m), b] → Ext w W ∧ Rd W 4 q (nx + ny) (encQ (l ++ m)) := fun S => ⟨S.ext, by rw [encQ_append]; exact S.rdx 1 rfl⟩
                have HMO := Lib.hid (fun b d d' => found_mono (k := k) (t := t) (l := l) (m := m) (b := b) (d := d) (d' := d') hk)
                clear hw hX hY hM hbig hfar hc1 hc2 h60 k1 k2 hk hb1 hb2
                go_enter Try.func4, Try.ntmps4
                go_wp2_with (first | (go_at_call 14; have _t := T3; go_must (refine (HD2.out _ _ _ (RDA T3.out)).mono ?_; rintro e w7 ⟨b2, d2, dn2, rfl, hdn, hE, hF⟩; have HF2 := Lib.hid hF; have HN2 := Lib.hid hdn; have T4 := Lib.hid ((T3.out.call hE).al #[.bool b2, .int .i64 d2, .slice none 0 0] 38 w7.heap.size rfl); have r0 := (T4.out.blk 1 rfl).cell 0; have r1 := (T4.out.blk 1 rfl).cell 1; have rz := (T4.out.blk 1 rfl).lt; clear a0 a1 a2 a3 a4 a5 az; clear hE hF hdn)) | (go_at_call 14; go_must (refine (HD1.out _ T2.out.ext).mono ?_; rintro e w6 ⟨b1, d1, dn1, rfl, hdn, hE, hF⟩; have HF1 := Lib.hid hF; have HN1 := Lib.hid hdn; have T3 := Lib.hid ((T2.out.call hE).al #[.bool b1, .int .i64 d1, .slice none 0 0] 38 w6.heap.size rfl); clear a0 a1 a2 a3 a4 a5 az; have a0 := (T3.out.blk 2 rfl).cell 0; have a1 := (T3.out.blk 2 rfl).cell 1; have a2 := (T3.out.blk 2 rfl).cell 2; have a3 := (T3.out.blk 2 rfl).cell 3; have a4 := (T3.out.blk 2 rfl).cell 4; have a5 := (T3.out.blk 2 rfl).cell 5; have az := (T3.out.blk 2 rfl).lt; clear hE hF hdn)) | (at_builtin; have _t := T1; go_must (refine wpList_append_sep rfl _ _ _ rfl 46 i0 _ 4 32 Try.underlying33 hi0 hz0 hz1 hz2 rfl (by omega) T1.out 0 q1 nx c1 _ rfl rfl py ny cy (encQ m) rfl (HY.out _ T1.out.ext) (one_encQ _) (by omega) (by omega) ?_; intro q2 c2 w5 S' hsz; have T2 := Lib.hid S'; clear a0 a1 a2 a3 a4 a5 az; have a0 := (T2.out.blk 1 rfl).cell 0; have a1 := (T2.out.blk 1 rfl).cell 1; have a2 := (T2.out.blk 1 rfl).cell 2; have a3 := (T2.out.blk 1 rfl).cell 3; have a4 := (T2.out.blk 1 rfl).cell 4; have a5 := (T2.out.blk 1 rfl).cell 5; have az := (T2.out.blk 1 rfl).lt; clear S' hsz)) | (at_builtin; go_must (refine wpList_append_sep rfl _ _ _ rfl 46 i0 _ 4 32 Try.underlying33 hi0 hz0 hz1 hz2 rfl (by omega) (S2.out.nilrow 46 4) 0 none 0 0 [] rfl rfl px nx cx (encQ l) rfl (HX.out _ S2.out.ext) (one_encQ _) (by omega) (by omega) ?_; intro q1 c1 w4 S' hsz; (try simp only [Nat.zero_add, List.nil_append] at S'); have T1 := Lib.hid S'; clear S' hsz)) | (go_at_call 13; have _t := tok1; go_must (refine (HC2.out _ S2.out.ext).mono ?_; rintro e w3 ⟨rfl, hw3⟩; have hw3 := hw3.symm; subst hw3)) | (go_at_call 13; go_must (refine (HC1.out _ S2.out.ext).mono ?_; rintro e w3 ⟨rfl, hw3⟩; have tok1 : True := trivial; have hw3 := hw3.symm; subst hw3)) | (go_at_call 12; go_must (refine (HFR.out _ S1.out.ext).mono ?_; rintro e w2 ⟨rfl, hb⟩; have S2 := Lib.hid (S1.out.call hb); clear a0 a1 a2 a3 a4 a5 az; have a0 := (S2.out.blk 0 rfl).cell 0; have a1 := (S2.out.blk 0 rfl).cell 1; have a2 := (S2.out.blk 0 rfl).cell 2; have a3 := (S2.out.blk 0 rfl).cell 3; have a4 := (S2.out.blk 0 rfl).cell 4; have a5 := (S2.out.blk 0 rfl).cell 5; have az := (S2.out.blk 0 rfl).lt; clear hb)) | (go_at_call 7; go_must (refine (HBG.out _ S0.out.ext).mono ?_; rintro e w1 ⟨rfl, hb⟩; have S1 := Lib.hid (S0.out.call hb); have a0 := (S1.out.blk 0 rfl).cell 0; have a1 := (S1.out.blk 0 rfl).cell 1; have a2 := (S1.out.blk 0 rfl).cell 2; have a3 := (S1.out.blk 0 rfl).cell 3; have a4 := (S1.out.blk 0 rfl).cell 4; have a5 := (S1.out.blk 0 rfl).cell 5; have az := (S1.out.blk 0 rfl).lt; clear hb)))
                · refine (ProgsG _).mono ?_
                  rintro e w8 ⟨rfl, hb⟩
                  have T5 := Lib.hid (T4.out.call hb)
                  clear hb
                  go_wp2
                  go_ret
                  exact ⟨rfl, T5.out.ext⟩
                · have hq : (!b1) = false := by assumption
                  have hq1 : b1 = true := by simpa using hq
                  have f1 : dn1 = true := HN1.out hq1
                  rw [hq1] at HF1
                  obtain ⟨f3, f4⟩ := HMO.out b2 d1 d2 HF1.out HF2.out
                  have f2 : dn2 = true := HN2.out f3
                  clear hq hq1
                  refine (ProgsG _).mono ?_
                  rintro e w8 ⟨rfl, hb⟩
                  have T5 := Lib.hid (T4.out.call hb)
                  have r0 := (T5.out.blk 1 rfl).cell 0
                  have r1 := (T5.out.blk 1 rfl).cell 1
                  have rz := (T5.out.blk 1 rfl).lt
                  have s0 := (T5.out.blk 0 rfl).cell 0
                  have s1 := (T5.out.blk 0 rfl).cell 1
                  have sz := (T5.out.blk 0 rfl).lt
                  clear hb
                  go_wp2
                  go_ret
                  exact ⟨rfl, T5.out.ext⟩
end Go.Proofs.Ytkekibnhmfmhmaa
/- The last step of a law's row: the result is true, the arguments read as they did, where the call only made memory. -/
namespace Go.Proofs.Ytkekibnhmfmhmaa
open Go Go.RowKit Go.WideShapes Go.ChangeShapes
theorem own : ownKnob Try.prog.godebug = none := by kernel_rfl
theorem laidOut : laidOutB Try.prog = true := by kernel_rfl
set_option maxRecDepth 100000 in
/-- true comes back, the arguments stay: what is left to show is their reading -/
theorem law_post {H : Type} {enc : TypeId × Value → H} {f : Func} {s : ChangeSpec} {apart fresh handsOn again : Bool} {W W' : World} {args : Array Value} {ds : List (DataW H)} {before : List MemPlace}
    (hW : DataW.Whole enc Try.prog f.params.toList s.vars apart W args.toList ds [] before) (ht : f.resultTypes = #[4]) (hvars : s.vars = [])
    (hfn : s.fn H (ds ++ []) = { results := [.lit (.bool true)], args := ds })
    (hargs : ∀ sp : Nat → Bool, (∀ p ∈ before, sp p.block = true) → DataW.TrodAll enc Try.prog W' 0 sp true f.params.toList args.toList ds before)
    (hb : Below W.heap.size W W') : s.post enc Try.prog f apart fresh handsOn again W args (.bool true) W' := by
  have lits : ∀ (b : Nat) (sp : Nat → Bool) (hd : Bool), DataW.TrodAll enc Try.prog W' b sp hd f.resultTypes.toList ((Value.bool true).resultList f.resultTypes.size) (s.fn H (ds ++ [])).results [] := by
    intro b sp hd
    rw [hfn, ht]
    exact trodAll_mk1 (shut_bool Try.underlying4 true)
  have hold : ∀ sp : Nat → Bool, (∀ p ∈ before, sp p.block = true) → DataW.TrodAll enc Try.prog W' 0 sp true f.params.toList args.toList (s.fn H (ds ++ [])).args before := by
    intro sp hsp
    rw [hfn]; exact hargs sp hsp
  have hv : ∀ sp : Nat → Bool, DataW.TrodVars enc Try.prog W' sp s.vars (s.fn H (ds ++ [])).vars [] := by
    intro sp; rw [hfn, hvars]; rfl
  have hin : ∀ p ∈ before, p.block < W.heap.size := fun p hp => hW.lt p hp
  have same : before = before ++ [] := by simp
  refine ⟨ds, [], before, [], before, [], hW, lits _ _ _, hold _ (fun p hp => by simpa using hin p hp), hv _, World.keptBut_mono (fun p hp => ⟨hp, .inr (by simpa using hp)⟩) (hb.frame (· ∈ before)), fun _ => ?_⟩
  have hW2 := hW
  obtain ⟨_, _, _, _, _, hz, hn⟩ := hW2
  refine ⟨ok_one (by rw [ht]) rfl (okWide_bool_mk Try.underlying4 _), _, _, ([] ++ before) ++ [], ⟨[] ++ before, [], trodAll_append (hold _ (fun _ _ => rfl)) (lits _ _ _), hv _, rfl, ?_, ?_⟩, ?_⟩
  · intro b off hp
    have hp2 : MemPlace.cell b off ∈ before := by simpa using hp
    rw [hb.frozen (hin _ hp2)]
    exact hz b off hp2
  · intro ha
    simpa using hn ha
  · intro p hp _
    simpa using hp
/-- an argument's reading, carried behind the call -/
theorem stays {H : Type} {enc : TypeId × Value → H} {W W' : World} {t : TypeId} {v : Value} {d : DataW H} {ps : List MemPlace} (hr : Try.prog.readableRec t = true) (hrow : t < Try.prog.types.size) (h : DataW.Trod enc Try.prog W 0 (fun _ => true) true t v d ps)
    (hb : Below W.heap.size W W') (hlt : ∀ x ∈ ps, x.block < W.heap.size) {sp : Nat → Bool} (hsp : ∀ x ∈ ps, sp x.block = true) : DataW.Trod enc Try.prog W' 0 sp true t v d ps :=
  WideElems.Trod_stays laidOut hr hrow h (fun x hx => hb.same (hlt x hx)) hsp
/-- all readings, one by one -/
theorem trodAll_turn {H : Type} {enc : TypeId × Value → H} {P : Program} {W W' : World} {sp sp' : Nat → Bool} {hd : Bool} (ts : List TypeId) : ∀ {vs : List Value} {ds : List (DataW H)} {ps : List MemPlace}, DataW.TrodAll enc P W 0 sp hd ts vs ds ps →
    (∀ t ∈ ts, ∀ v d p, (∀ x ∈ p, x ∈ ps) → DataW.Trod enc P W 0 sp hd t v d p → DataW.Trod enc P W' 0 sp' hd t v d p) → DataW.TrodAll enc P W' 0 sp' hd ts vs ds ps := by
  induction ts with
  | nil =>
    intro vs ds ps h _
    obtain ⟨rfl, rfl, rfl⟩ := trodAll_nil h
    exact trodAll_mk0
  | cons t ts ih =>
    intro vs ds ps h hk
    obtain ⟨v, vs', d, ds', p, q, rfl, rfl, rfl, h1, h2⟩ := trodAll_cons h
    exact trodAll_cons_mk (hk t (by simp) v d p (fun x hx => by simp [hx]) h1) (ih h2 fun t' ht' v' d' p' hp' h' => hk t' (by simp [ht']) v' d' p' (fun x hx => by simp [hp' x hx]) h')
/-- all arguments' reading, carried behind the call -/
theorem stays_all {H : Type} {enc : TypeId × Value → H} {W W' : World} {ts : List TypeId} {vs : List Value} {ds : List (DataW H)} {ps : List MemPlace} (hr : ts.all (fun t => Try.prog.readableRec t && decide (t < Try.prog.types.size)) = true)
    (h : DataW.TrodAll enc Try.prog W 0 (fun _ => true) true ts vs ds ps) (hb : Below W.heap.size W W') (hlt : ∀ x ∈ ps, x.block < W.heap.size) {sp : Nat → Bool} (hsp : ∀ x ∈ ps, sp x.block = true) : DataW.TrodAll enc Try.prog W' 0 sp true ts vs ds ps :=
  trodAll_turn ts h fun t ht v d p hp h1 => by
    have h2 := List.all_eq_true.1 hr t ht
    rw [Bool.and_eq_true, decide_eq_true_eq] at h2
    exact stays h2.1 h2.2 h1 hb (fun x hx => hlt x (hp x hx)) (fun x hx => hsp x (hp x hx))
end Go.Proofs.Ytkekibnhmfmhmaa
