/- Texts of this claim, one behind the other: Pg5, Rf1, Rf2, PlainHn, PlainNr, Ah9, Hp2, HpM, Hp4, Hp5, Hp6, PlainFst, Bs1, Bs2, Bs3, BsM, Bs4, Bs5, Bs6, Bs7, Bs8, Bs9, Rf3, MapT, Make5, R10, Mk5r, Ex5, PlainP, Chk5r, LPTells, Pg6, Rf4, Pg7, Hy9. -/
import Derived.IntWalk
import Derived.Maps.OwnSet
import Derived.Test.YtkekibnhmfmhmaaGreatQProgDone3
/- Chapter 18: is a query of the kind 2 done, or one of no kind (the program's Done). -/
namespace Go.Proofs.YtkekibnhmfmhmaaGreat
open Go Go.RowKit Go.Maps
theorem least_at {l : List Sq} {f : Int → Option I6} (h : Least l 0 f) (t : Int) : (f t).isSome = atS l t := by
  cases hf : f t with
  | none =>
    have := h.1 t hf
    cases ha : atS l t with
    | false => rfl
    | true =>
      obtain ⟨x, hx, h1, h2⟩ := atS_iff.1 ha
      exact absurd h2 (this x hx h1)
  | some d =>
    obtain ⟨x, hx, h1, h2, _⟩ := (h.2 t d hf).1
    exact (atS_iff.2 ⟨x, hx, h1, h2⟩).symm
set_option maxRecDepth 100000 in
set_option maxHeartbeats 4000000 in
theorem Done2 (f t : Int) (pw : Option Addr) (nw cw : Nat) (rad most : Int) (pl : Option Addr) (nl cl : Nat) (p : Option Addr) (n c : Nat) (l : List Sq) (pm : Option Addr) (nm cm : Nat) (w : World) (hl : Rd w 4 p n (encQ l)) (hi : ∀ x ∈ l, I64 x.v ∧ I64 x.d) (hn : n ≤ 1000000) (ht : I64 t) :
    Calls Tryz.prog 13 #[.agg #[.int .i64 2, .int .i64 f, .int .i64 t, .slice pw nw cw, .int .i64 rad, .int .i64 most], .slice pl nl cl, .slice p n c, .slice pm nm cm] w fun e w' => e = .returned (.tuple #[.agg #[.bool (atS l t), .int .i64 0, .slice none 0 0], .bool (atS l t || decide (nm = 0))]) ∧ Ext w w' := by
  have S0 := Lib.hid ((((Sep.start w).al #[.int .i64 2, .int .i64 f, .int .i64 t, .slice pw nw cw, .int .i64 rad, .int .i64 most] 24 w.heap.size rfl).al #[.slice pm nm cm] 27 (w.heap.size + 1) (by simp)).al #[.bool false, .int .i64 0, .slice none 0 0] 33 (w.heap.size + 1 + 1) (by simp))
  have HLE := Lib.hid (fun W (h : Ext w W) => leastG p n c l 0 W (hl.ext h) hi hn)
  clear hl hi
  cases hbb : atS l t with
  | true =>
    have HB := Lib.hid hbb
    have HD : Hid ((true || decide (nm = 0)) = true) := rfl
    go_enter Tryz.func13, Tryz.ntmps13
    go_wp2
    obtain ⟨X, hX⟩ : ∃ X, X = ((w.alloc (.cells #[.int .i64 2, .int .i64 f, .int .i64 t, .slice pw nw cw, .int .i64 rad, .int .i64 most] 24)).alloc (.cells #[.slice pm nm cm] 27)).alloc (.cells #[.bool false, .int .i64 0, .slice none 0 0] 33) := ⟨_, rfl⟩
    rw [← hX] at S0 ⊢
    clear hX
    have a2 : X.cell? ⟨w.heap.size, 2, none⟩ = some (.int .i64 t) := (S0.out.blk 2 rfl).cell 2
    refine wp_region_noPanic ?_
    refine wp_region_held_drew (S := fun w' => w'.cell? ⟨w.heap.size, 2, none⟩ = some (.int .i64 t)) (by kernel_rfl) a2 (fun hHeld => ?_)
    have SD := Lib.hid S0.out.drew
    clear S0 a2
    generalize X.drew = D at SD hHeld ⊢
    clear X
    refine wpAnyH_take (i := 0) (v := .slice p n c) rfl (by kernel_rfl) (by kernel_rfl) (by kernel_rfl) (noPanic_q _ _) (Or.inl ⟨by kernel_rfl, fun W hSw => by have h1 := hSw; go_simp⟩) hHeld ?_
    refine wpAnyH_take (i := 2) (v := .pointer (some ⟨w.heap.size, 2, none⟩)) rfl (by kernel_rfl) (by kernel_rfl) (by kernel_rfl) (noPanic_q _ _) (Or.inl ⟨by kernel_rfl, fun W hSw => by have h1 := hSw; go_simp⟩) hHeld ?_
    refine wpAnyH_take (i := 3) (v := .int .i64 t) rfl (by kernel_rfl) (by kernel_rfl) (by kernel_rfl) (noPanic_q _ _) (Or.inl ⟨by kernel_rfl, fun W hSw => by have h1 := hSw; go_simp⟩) hHeld ?_
    refine wpAnyH_ready (rs := [1]) (by kernel_rfl) (by simp) (AllReadyH.cons rfl (fun K hK => ?_) AllReadyH.nil)
    go_simp
    refine (HLE.out _ SD.out.ext).mono ?_
    rintro e w1 ⟨b, m, g, hm, rfl, Z, hg⟩
    have HG := Lib.hid (least_at hg t)
    have S1 := Lib.hid (SD.out.comp Z)
    clear hg Z SD
    have a2 : w1.cell? ⟨w.heap.size, 2, none⟩ = some (.int .i64 t) := (S1.out.blk 3 rfl).cell 2
    refine hK.out _ _ a2 (fun hHeld => ?_)
    clear hK
    have k0 := (S1.out.map 0 rfl).lookup_ok (t := 86) Tryz.underlying3 Tryz.underlying86 ht
    rw [HG.out, HB.out] at k0
    generalize (g t).getD EI6.z = z0 at k0
    have k1 : (Instr.lookup 86 (.map (some b)) (.int .i64 t) true).run Tryz.prog w1 = .ok (.tuple #[.int .i64 z0.1, .bool true]) w1 := k0
    clear k0 HG
    refine wpAnyH_ready (rs := [4]) (by kernel_rfl) (by simp) (AllReadyH.cons rfl (fun K hK => ?_) AllReadyH.nil)
    go_simp
    refine hK.out _ _ a2 (fun hHeld => ?_)
    clear hK k1
    refine wpAnyH_take (i := 5) (v := .tuple #[.int .i64 z0.1, .bool true]) rfl (by kernel_rfl) (by kernel_rfl) (by kernel_rfl) (noPanic_q _ _) (Or.inl ⟨by kernel_rfl, fun W hSw => by have h1 := hSw; go_simp⟩) hHeld ?_
    refine wpAnyH_take (i := 6) (v := .int .i64 z0.1) rfl (by kernel_rfl) (by kernel_rfl) (by kernel_rfl) (noPanic_q _ _) (Or.inl ⟨by kernel_rfl, fun W hSw => by have h1 := hSw; go_simp⟩) hHeld ?_
    refine wpAnyH_take (i := 7) (v := .bool true) rfl (by kernel_rfl) (by kernel_rfl) (by kernel_rfl) (noPanic_q _ _) (Or.inl ⟨by kernel_rfl, fun W hSw => by have h1 := hSw; go_simp⟩) hHeld ?_
    refine wpAnyH_take (i := 8) (v := .int .i64 z0.1) rfl (by kernel_rfl) (by kernel_rfl) (by kernel_rfl) (noPanic_q _ _) (Or.inl ⟨by kernel_rfl, fun W hSw => by have h1 := hSw; go_simp⟩) hHeld ?_
    refine wpAnyH_take (i := 9) (v := .bool true) rfl (by kernel_rfl) (by kernel_rfl) (by kernel_rfl) (noPanic_q _ _) (Or.inl ⟨by kernel_rfl, fun W hSw => by have h1 := hSw; go_simp⟩) hHeld ?_
    refine wpAnyH_done (by kernel_rfl) ?_ _
    refine noPanic_mk ?_
    clear hHeld a2
    simp [Act.put]
    go_wp2
    have m0 : w1.cell? ⟨w.heap.size + 1, 0, none⟩ = some (.slice pm nm cm) := (S1.out.blk 2 rfl).cell 0
    refine wp_region_noPanic ?_
    refine wp_region_held_drew (S := fun w' => w'.cell? ⟨w.heap.size + 1, 0, none⟩ = some (.slice pm nm cm)) (by kernel_rfl) m0 (fun hHeld => ?_)
    have SD := Lib.hid S1.out.drew
    clear S1 m0
    generalize w1.drew = D2 at SD hHeld ⊢
    refine wpAnyH_take (i := 0) (v := .bool true) rfl (by kernel_rfl) (by kernel_rfl) (by kernel_rfl) (noPanic_q _ _) (Or.inl ⟨by kernel_rfl, fun W hSw => by have h1 := hSw; go_simp⟩) hHeld ?_
    refine wpAnyH_take (i := 1) (v := .agg #[.bool true, .int .i64 0, .slice none 0 0]) rfl (by kernel_rfl) (by kernel_rfl) (by kernel_rfl) (noPanic_q _ _) (Or.inl ⟨by kernel_rfl, fun W hSw => by have h1 := hSw; go_simp⟩) hHeld ?_
    refine wpAnyH_take (i := 2) (v := .bool true) rfl (by kernel_rfl) (by kernel_rfl) (by kernel_rfl) (noPanic_q _ _) (Or.inl ⟨by kernel_rfl, fun W hSw => by have h1 := hSw; go_simp⟩) hHeld ?_
    refine wpAnyH_take (i := 3) (v := .bool true) rfl (by kernel_rfl) (by kernel_rfl) (by kernel_rfl) (noPanic_q _ _) (Or.inl ⟨by kernel_rfl, fun W hSw => by have h1 := hSw; go_simp⟩) hHeld ?_
    refine wpAnyH_take (i := 4) (v := undef) rfl (by kernel_rfl) (by kernel_rfl) (by kernel_rfl) (noPanic_q _ _) (Or.inr ⟨by kernel_rfl, rfl⟩) hHeld ?_
    refine wpAnyH_take (i := 5) (v := undef) rfl (by kernel_rfl) (by kernel_rfl) (by kernel_rfl) (noPanic_q _ _) (Or.inr ⟨by kernel_rfl, rfl⟩) hHeld ?_
    refine wpAnyH_take (i := 6) (v := undef) rfl (by kernel_rfl) (by kernel_rfl) (by kernel_rfl) (noPanic_q _ _) (Or.inr ⟨by kernel_rfl, rfl⟩) hHeld ?_
    refine wpAnyH_take (i := 7) (v := .bool true) rfl (by kernel_rfl) (by kernel_rfl) (by kernel_rfl) (noPanic_q _ _) (Or.inl ⟨by kernel_rfl, fun W hSw => by have h1 := hSw; go_simp⟩) hHeld ?_
    have a0 := (SD.out.blk 1 rfl).cell 0
    have a1 := (SD.out.blk 1 rfl).cell 1
    have a2 := (SD.out.blk 1 rfl).cell 2
    have az := (SD.out.blk 1 rfl).lt
    have f0 := (SD.out.blk 1 rfl).frozen 0
    have f1 := (SD.out.blk 1 rfl).frozen 1
    have f2 := (SD.out.blk 1 rfl).frozen 2
    have S9 := Lib.hid (((SD.out.set 1 rfl 0 (.bool true)).set 1 rfl 1 (.int .i64 0)).set 1 rfl 2 (.slice none 0 0))
    refine wpAnyH_ready (rs := [8]) (by kernel_rfl) (by simp) (AllReadyH.cons rfl (fun K hK => ?_) AllReadyH.nil)
    go_simp
    have c0 := (S9.out.blk 2 rfl).cell 0
    refine hK.out _ _ c0 (fun hHeld => ?_)
    clear hK
    refine wpAnyH_take (i := 9) (v := .bool true) rfl (by kernel_rfl) (by kernel_rfl) (by kernel_rfl) (noPanic_q _ _) (Or.inl ⟨by kernel_rfl, fun W hSw => by have h1 := hSw; go_simp⟩) hHeld ?_
    refine wpAnyH_done (by kernel_rfl) ?_ _
    refine noPanic_mk ?_
    have x0 := (S9.out.blk 1 rfl).cell 0
    have x1 := (S9.out.blk 1 rfl).cell 1
    have x2 := (S9.out.blk 1 rfl).cell 2
    go_wp2
    exact bodyPost_ret (v := .tuple #[.agg #[.bool true, .int .i64 0, .slice none 0 0], .bool true]) (by simp [results, Tryz.results13, go_sem, x0, x1, x2, Tryz.sizeOf33, Tryz.isAgg33]) rfl ⟨by rw [HD.out], S9.out.ext⟩
  | false =>
    have HB := Lib.hid hbb
    by_cases h0 : nm = 0
    · have HD : Hid ((false || decide (nm = 0)) = true) := by unfold Hid; simp [h0]
      have hb0 : ((nm:Int) == 0) = true := by simp; omega
      clear h0
      go_enter Tryz.func13, Tryz.ntmps13
      go_wp2
      obtain ⟨X, hX⟩ : ∃ X, X = ((w.alloc (.cells #[.int .i64 2, .int .i64 f, .int .i64 t, .slice pw nw cw, .int .i64 rad, .int .i64 most] 24)).alloc (.cells #[.slice pm nm cm] 27)).alloc (.cells #[.bool false, .int .i64 0, .slice none 0 0] 33) := ⟨_, rfl⟩
      rw [← hX] at S0 ⊢
      clear hX
      have a2 : X.cell? ⟨w.heap.size, 2, none⟩ = some (.int .i64 t) := (S0.out.blk 2 rfl).cell 2
      refine wp_region_noPanic ?_
      refine wp_region_held_drew (S := fun w' => w'.cell? ⟨w.heap.size, 2, none⟩ = some (.int .i64 t)) (by kernel_rfl) a2 (fun hHeld => ?_)
      have SD := Lib.hid S0.out.drew
      clear S0 a2
      generalize X.drew = D at SD hHeld ⊢
      clear X
      refine wpAnyH_take (i := 0) (v := .slice p n c) rfl (by kernel_rfl) (by kernel_rfl) (by kernel_rfl) (noPanic_q _ _) (Or.inl ⟨by kernel_rfl, fun W hSw => by have h1 := hSw; go_simp⟩) hHeld ?_
      refine wpAnyH_take (i := 2) (v := .pointer (some ⟨w.heap.size, 2, none⟩)) rfl (by kernel_rfl) (by kernel_rfl) (by kernel_rfl) (noPanic_q _ _) (Or.inl ⟨by kernel_rfl, fun W hSw => by have h1 := hSw; go_simp⟩) hHeld ?_
      refine wpAnyH_take (i := 3) (v := .int .i64 t) rfl (by kernel_rfl) (by kernel_rfl) (by kernel_rfl) (noPanic_q _ _) (Or.inl ⟨by kernel_rfl, fun W hSw => by have h1 := hSw; go_simp⟩) hHeld ?_
      refine wpAnyH_ready (rs := [1]) (by kernel_rfl) (by simp) (AllReadyH.cons rfl (fun K hK => ?_) AllReadyH.nil)
      go_simp
      refine (HLE.out _ SD.out.ext).mono ?_
      rintro e w1 ⟨b, m, g, hm, rfl, Z, hg⟩
      have HG := Lib.hid (least_at hg t)
      have S1 := Lib.hid (SD.out.comp Z)
      clear hg Z SD
      have a2 : w1.cell? ⟨w.heap.size, 2, none⟩ = some (.int .i64 t) := (S1.out.blk 3 rfl).cell 2
      refine hK.out _ _ a2 (fun hHeld => ?_)
      clear hK
      have k0 := (S1.out.map 0 rfl).lookup_ok (t := 86) Tryz.underlying3 Tryz.underlying86 ht
      rw [HG.out, HB.out] at k0
      generalize (g t).getD EI6.z = z0 at k0
      have k1 : (Instr.lookup 86 (.map (some b)) (.int .i64 t) true).run Tryz.prog w1 = .ok (.tuple #[.int .i64 z0.1, .bool false]) w1 := k0
      clear k0 HG
      refine wpAnyH_ready (rs := [4]) (by kernel_rfl) (by simp) (AllReadyH.cons rfl (fun K hK => ?_) AllReadyH.nil)
      go_simp
      refine hK.out _ _ a2 (fun hHeld => ?_)
      clear hK k1
      refine wpAnyH_take (i := 5) (v := .tuple #[.int .i64 z0.1, .bool false]) rfl (by kernel_rfl) (by kernel_rfl) (by kernel_rfl) (noPanic_q _ _) (Or.inl ⟨by kernel_rfl, fun W hSw => by have h1 := hSw; go_simp⟩) hHeld ?_
      refine wpAnyH_take (i := 6) (v := .int .i64 z0.1) rfl (by kernel_rfl) (by kernel_rfl) (by kernel_rfl) (noPanic_q _ _) (Or.inl ⟨by kernel_rfl, fun W hSw => by have h1 := hSw; go_simp⟩) hHeld ?_
      refine wpAnyH_take (i := 7) (v := .bool false) rfl (by kernel_rfl) (by kernel_rfl) (by kernel_rfl) (noPanic_q _ _) (Or.inl ⟨by kernel_rfl, fun W hSw => by have h1 := hSw; go_simp⟩) hHeld ?_
      refine wpAnyH_take (i := 8) (v := .int .i64 z0.1) rfl (by kernel_rfl) (by kernel_rfl) (by kernel_rfl) (noPanic_q _ _) (Or.inl ⟨by kernel_rfl, fun W hSw => by have h1 := hSw; go_simp⟩) hHeld ?_
      refine wpAnyH_take (i := 9) (v := .bool false) rfl (by kernel_rfl) (by kernel_rfl) (by kernel_rfl) (noPanic_q _ _) (Or.inl ⟨by kernel_rfl, fun W hSw => by have h1 := hSw; go_simp⟩) hHeld ?_
      refine wpAnyH_done (by kernel_rfl) ?_ _
      refine noPanic_mk ?_
      clear hHeld a2
      simp [Act.put]
      go_wp2
      have m0 : w1.cell? ⟨w.heap.size + 1, 0, none⟩ = some (.slice pm nm cm) := (S1.out.blk 2 rfl).cell 0
      refine wp_region_noPanic ?_
      refine wp_region_held_drew (S := fun w' => w'.cell? ⟨w.heap.size + 1, 0, none⟩ = some (.slice pm nm cm)) (by kernel_rfl) m0 (fun hHeld => ?_)
      have SD := Lib.hid S1.out.drew
      clear S1 m0
      generalize w1.drew = D2 at SD hHeld ⊢
      refine wpAnyH_take (i := 0) (v := .bool false) rfl (by kernel_rfl) (by kernel_rfl) (by kernel_rfl) (noPanic_q _ _) (Or.inl ⟨by kernel_rfl, fun W hSw => by have h1 := hSw; go_simp⟩) hHeld ?_
      refine wpAnyH_take (i := 1) (v := .agg #[.bool false, .int .i64 0, .slice none 0 0]) rfl (by kernel_rfl) (by kernel_rfl) (by kernel_rfl) (noPanic_q _ _) (Or.inl ⟨by kernel_rfl, fun W hSw => by have h1 := hSw; go_simp⟩) hHeld ?_
      refine wpAnyH_take (i := 2) (v := .bool false) rfl (by kernel_rfl) (by kernel_rfl) (by kernel_rfl) (noPanic_q _ _) (Or.inl ⟨by kernel_rfl, fun W hSw => by have h1 := hSw; go_simp⟩) hHeld ?_
      refine wpAnyH_take (i := 3) (v := .bool false) rfl (by kernel_rfl) (by kernel_rfl) (by kernel_rfl) (noPanic_q _ _) (Or.inl ⟨by kernel_rfl, fun W hSw => by have h1 := hSw; go_simp⟩) hHeld ?_
      refine wpAnyH_take (i := 4) (v := .slice pm nm cm) rfl (by kernel_rfl) (by kernel_rfl) (by kernel_rfl) (noPanic_q _ _) (Or.inl ⟨by kernel_rfl, fun W hSw => by have h1 := hSw; go_simp⟩) hHeld ?_
      refine wpAnyH_take (i := 5) (v := .int .i64 nm) rfl (by kernel_rfl) (by kernel_rfl) (by kernel_rfl) (noPanic_q _ _) (Or.inl ⟨by kernel_rfl, fun W hSw => by have h1 := hSw; go_simp⟩) hHeld ?_
      refine wpAnyH_take (i := 6) (v := .bool true) rfl (by kernel_rfl) (by kernel_rfl) (by kernel_rfl) (noPanic_q _ _) (Or.inl ⟨by kernel_rfl, fun W hSw => by have h1 := hSw; go_simp⟩) hHeld ?_
      refine wpAnyH_take (i := 7) (v := .bool true) rfl (by kernel_rfl) (by kernel_rfl) (by kernel_rfl) (noPanic_q _ _) (Or.inl ⟨by kernel_rfl, fun W hSw => by have h1 := hSw; go_simp⟩) hHeld ?_
      have a0 := (SD.out.blk 1 rfl).cell 0
      have a1 := (SD.out.blk 1 rfl).cell 1
      have a2 := (SD.out.blk 1 rfl).cell 2
      have az := (SD.out.blk 1 rfl).lt
      have f0 := (SD.out.blk 1 rfl).frozen 0
      have f1 := (SD.out.blk 1 rfl).frozen 1
      have f2 := (SD.out.blk 1 rfl).frozen 2
      have S9 := Lib.hid (((SD.out.set 1 rfl 0 (.bool false)).set 1 rfl 1 (.int .i64 0)).set 1 rfl 2 (.slice none 0 0))
      refine wpAnyH_ready (rs := [8]) (by kernel_rfl) (by simp) (AllReadyH.cons rfl (fun K hK => ?_) AllReadyH.nil)
      go_simp
      have c0 := (S9.out.blk 2 rfl).cell 0
      refine hK.out _ _ c0 (fun hHeld => ?_)
      clear hK
      refine wpAnyH_take (i := 9) (v := .bool true) rfl (by kernel_rfl) (by kernel_rfl) (by kernel_rfl) (noPanic_q _ _) (Or.inl ⟨by kernel_rfl, fun W hSw => by have h1 := hSw; go_simp⟩) hHeld ?_
      refine wpAnyH_done (by kernel_rfl) ?_ _
      refine noPanic_mk ?_
      have x0 := (S9.out.blk 1 rfl).cell 0
      have x1 := (S9.out.blk 1 rfl).cell 1
      have x2 := (S9.out.blk 1 rfl).cell 2
      go_wp2
      exact bodyPost_ret (v := .tuple #[.agg #[.bool false, .int .i64 0, .slice none 0 0], .bool true]) (by simp [results, Tryz.results13, go_sem, x0, x1, x2, Tryz.sizeOf33, Tryz.isAgg33]) rfl ⟨by rw [HD.out], S9.out.ext⟩
    · have HD : Hid ((false || decide (nm = 0)) = false) := by unfold Hid; simp [h0]
      have hb0 : ((nm:Int) == 0) = false := by simp; omega
      clear h0
      go_enter Tryz.func13, Tryz.ntmps13
      go_wp2
      obtain ⟨X, hX⟩ : ∃ X, X = ((w.alloc (.cells #[.int .i64 2, .int .i64 f, .int .i64 t, .slice pw nw cw, .int .i64 rad, .int .i64 most] 24)).alloc (.cells #[.slice pm nm cm] 27)).alloc (.cells #[.bool false, .int .i64 0, .slice none 0 0] 33) := ⟨_, rfl⟩
      rw [← hX] at S0 ⊢
      clear hX
      have a2 : X.cell? ⟨w.heap.size, 2, none⟩ = some (.int .i64 t) := (S0.out.blk 2 rfl).cell 2
      refine wp_region_noPanic ?_
      refine wp_region_held_drew (S := fun w' => w'.cell? ⟨w.heap.size, 2, none⟩ = some (.int .i64 t)) (by kernel_rfl) a2 (fun hHeld => ?_)
      have SD := Lib.hid S0.out.drew
      clear S0 a2
      generalize X.drew = D at SD hHeld ⊢
      clear X
      refine wpAnyH_take (i := 0) (v := .slice p n c) rfl (by kernel_rfl) (by kernel_rfl) (by kernel_rfl) (noPanic_q _ _) (Or.inl ⟨by kernel_rfl, fun W hSw => by have h1 := hSw; go_simp⟩) hHeld ?_
      refine wpAnyH_take (i := 2) (v := .pointer (some ⟨w.heap.size, 2, none⟩)) rfl (by kernel_rfl) (by kernel_rfl) (by kernel_rfl) (noPanic_q _ _) (Or.inl ⟨by kernel_rfl, fun W hSw => by have h1 := hSw; go_simp⟩) hHeld ?_
      refine wpAnyH_take (i := 3) (v := .int .i64 t) rfl (by kernel_rfl) (by kernel_rfl) (by kernel_rfl) (noPanic_q _ _) (Or.inl ⟨by kernel_rfl, fun W hSw => by have h1 := hSw; go_simp⟩) hHeld ?_
      refine wpAnyH_ready (rs := [1]) (by kernel_rfl) (by simp) (AllReadyH.cons rfl (fun K hK => ?_) AllReadyH.nil)
      go_simp
      refine (HLE.out _ SD.out.ext).mono ?_
      rintro e w1 ⟨b, m, g, hm, rfl, Z, hg⟩
      have HG := Lib.hid (least_at hg t)
      have S1 := Lib.hid (SD.out.comp Z)
      clear hg Z SD
      have a2 : w1.cell? ⟨w.heap.size, 2, none⟩ = some (.int .i64 t) := (S1.out.blk 3 rfl).cell 2
      refine hK.out _ _ a2 (fun hHeld => ?_)
      clear hK
      have k0 := (S1.out.map 0 rfl).lookup_ok (t := 86) Tryz.underlying3 Tryz.underlying86 ht
      rw [HG.out, HB.out] at k0
      generalize (g t).getD EI6.z = z0 at k0
      have k1 : (Instr.lookup 86 (.map (some b)) (.int .i64 t) true).run Tryz.prog w1 = .ok (.tuple #[.int .i64 z0.1, .bool false]) w1 := k0
      clear k0 HG
      refine wpAnyH_ready (rs := [4]) (by kernel_rfl) (by simp) (AllReadyH.cons rfl (fun K hK => ?_) AllReadyH.nil)
      go_simp
      refine hK.out _ _ a2 (fun hHeld => ?_)
      clear hK k1
      refine wpAnyH_take (i := 5) (v := .tuple #[.int .i64 z0.1, .bool false]) rfl (by kernel_rfl) (by kernel_rfl) (by kernel_rfl) (noPanic_q _ _) (Or.inl ⟨by kernel_rfl, fun W hSw => by have h1 := hSw; go_simp⟩) hHeld ?_
      refine wpAnyH_take (i := 6) (v := .int .i64 z0.1) rfl (by kernel_rfl) (by kernel_rfl) (by kernel_rfl) (noPanic_q _ _) (Or.inl ⟨by kernel_rfl, fun W hSw => by have h1 := hSw; go_simp⟩) hHeld ?_
      refine wpAnyH_take (i := 7) (v := .bool false) rfl (by kernel_rfl) (by kernel_rfl) (by kernel_rfl) (noPanic_q _ _) (Or.inl ⟨by kernel_rfl, fun W hSw => by have h1 := hSw; go_simp⟩) hHeld ?_
      refine wpAnyH_take (i := 8) (v := .int .i64 z0.1) rfl (by kernel_rfl) (by kernel_rfl) (by kernel_rfl) (noPanic_q _ _) (Or.inl ⟨by kernel_rfl, fun W hSw => by have h1 := hSw; go_simp⟩) hHeld ?_
      refine wpAnyH_take (i := 9) (v := .bool false) rfl (by kernel_rfl) (by kernel_rfl) (by kernel_rfl) (noPanic_q _ _) (Or.inl ⟨by kernel_rfl, fun W hSw => by have h1 := hSw; go_simp⟩) hHeld ?_
      refine wpAnyH_done (by kernel_rfl) ?_ _
      refine noPanic_mk ?_
      clear hHeld a2
      simp [Act.put]
      go_wp2
      have m0 : w1.cell? ⟨w.heap.size + 1, 0, none⟩ = some (.slice pm nm cm) := (S1.out.blk 2 rfl).cell 0
      refine wp_region_noPanic ?_
      refine wp_region_held_drew (S := fun w' => w'.cell? ⟨w.heap.size + 1, 0, none⟩ = some (.slice pm nm cm)) (by kernel_rfl) m0 (fun hHeld => ?_)
      have SD := Lib.hid S1.out.drew
      clear S1 m0
      generalize w1.drew = D2 at SD hHeld ⊢
      refine wpAnyH_take (i := 0) (v := .bool false) rfl (by kernel_rfl) (by kernel_rfl) (by kernel_rfl) (noPanic_q _ _) (Or.inl ⟨by kernel_rfl, fun W hSw => by have h1 := hSw; go_simp⟩) hHeld ?_
      refine wpAnyH_take (i := 1) (v := .agg #[.bool false, .int .i64 0, .slice none 0 0]) rfl (by kernel_rfl) (by kernel_rfl) (by kernel_rfl) (noPanic_q _ _) (Or.inl ⟨by kernel_rfl, fun W hSw => by have h1 := hSw; go_simp⟩) hHeld ?_
      refine wpAnyH_take (i := 2) (v := .bool false) rfl (by kernel_rfl) (by kernel_rfl) (by kernel_rfl) (noPanic_q _ _) (Or.inl ⟨by kernel_rfl, fun W hSw => by have h1 := hSw; go_simp⟩) hHeld ?_
      refine wpAnyH_take (i := 3) (v := .bool false) rfl (by kernel_rfl) (by kernel_rfl) (by kernel_rfl) (noPanic_q _ _) (Or.inl ⟨by kernel_rfl, fun W hSw => by have h1 := hSw; go_simp⟩) hHeld ?_
      refine wpAnyH_take (i := 4) (v := .slice pm nm cm) rfl (by kernel_rfl) (by kernel_rfl) (by kernel_rfl) (noPanic_q _ _) (Or.inl ⟨by kernel_rfl, fun W hSw => by have h1 := hSw; go_simp⟩) hHeld ?_
      refine wpAnyH_take (i := 5) (v := .int .i64 nm) rfl (by kernel_rfl) (by kernel_rfl) (by kernel_rfl) (noPanic_q _ _) (Or.inl ⟨by kernel_rfl, fun W hSw => by have h1 := hSw; go_simp⟩) hHeld ?_
      refine wpAnyH_take (i := 6) (v := .bool false) rfl (by kernel_rfl) (by kernel_rfl) (by kernel_rfl) (noPanic_q _ _) (Or.inl ⟨by kernel_rfl, fun W hSw => by have h1 := hSw; go_simp⟩) hHeld ?_
      refine wpAnyH_take (i := 7) (v := .bool false) rfl (by kernel_rfl) (by kernel_rfl) (by kernel_rfl) (noPanic_q _ _) (Or.inl ⟨by kernel_rfl, fun W hSw => by have h1 := hSw; go_simp⟩) hHeld ?_
      have a0 := (SD.out.blk 1 rfl).cell 0
      have a1 := (SD.out.blk 1 rfl).cell 1
      have a2 := (SD.out.blk 1 rfl).cell 2
      have az := (SD.out.blk 1 rfl).lt
      have f0 := (SD.out.blk 1 rfl).frozen 0
      have f1 := (SD.out.blk 1 rfl).frozen 1
      have f2 := (SD.out.blk 1 rfl).frozen 2
      have S9 := Lib.hid (((SD.out.set 1 rfl 0 (.bool false)).set 1 rfl 1 (.int .i64 0)).set 1 rfl 2 (.slice none 0 0))
      refine wpAnyH_ready (rs := [8]) (by kernel_rfl) (by simp) (AllReadyH.cons rfl (fun K hK => ?_) AllReadyH.nil)
      go_simp
      have c0 := (S9.out.blk 2 rfl).cell 0
      refine hK.out _ _ c0 (fun hHeld => ?_)
      clear hK
      refine wpAnyH_take (i := 9) (v := .bool false) rfl (by kernel_rfl) (by kernel_rfl) (by kernel_rfl) (noPanic_q _ _) (Or.inl ⟨by kernel_rfl, fun W hSw => by have h1 := hSw; go_simp⟩) hHeld ?_
      refine wpAnyH_done (by kernel_rfl) ?_ _
      refine noPanic_mk ?_
      have x0 := (S9.out.blk 1 rfl).cell 0
      have x1 := (S9.out.blk 1 rfl).cell 1
      have x2 := (S9.out.blk 1 rfl).cell 2
      go_wp2
      exact bodyPost_ret (v := .tuple #[.agg #[.bool false, .int .i64 0, .slice none 0 0], .bool false]) (by simp [results, Tryz.results13, go_sem, x0, x1, x2, Tryz.sizeOf33, Tryz.isAgg33]) rfl ⟨by rw [HD.out], S9.out.ext⟩
end Go.Proofs.YtkekibnhmfmhmaaGreat
/- Chapter 18 (reference): has; dist. -/
namespace Go.Proofs.YtkekibnhmfmhmaaGreat
open Go Go.RowKit
set_option maxHeartbeats 1000000 in
theorem Has18 (p : Option Addr) (n c : Nat) (l : List Sq) (r : Int) (w : World) (hl : Rd w 4 p n (encQ l)) :
    Calls Tryz.prog 82 #[.slice p n c, .int .i64 r] w fun e w' => e = .returned (.bool (hasD l r)) ∧ w' = w := by
  have p1 := hl.ptr
  have n1 := hl.small
  have L1 := Lib.hid hl.nQ
  have HL := Lib.hid hl; clear hl
  go_enter Tryz.func82, Tryz.ntmps82
  go_wp2
  go_loop [5] (fun i => ∃ k : Nat, k ≤ n ∧ i = .int .i64 k ∧ (l.take k).any (fun x => x.r == r) = false) (fun i => n - (intOf i).toNat)
  case atStart => exact ⟨0, Nat.zero_le _, rfl, rfl⟩
  case round =>
    obtain ⟨k, hk, rfl, ha⟩ := hrel
    have HA := Lib.hid ha; clear ha
    by_cases hlt : k < n
    · have g2 := (HL.out.cQ hlt).2.1
      have hkl : k < l.length := by rw [← L1.out]; exact hlt
      have HTA := Lib.hid (any_true_at (fun x : Sq => x.r == r) l k hkl)
      have HST := Lib.hid (any_step (fun x : Sq => x.r == r) l k hkl HA.out)
      have d1 : (0:Int) ≤ k := by omega
      have d2 : (k:Int) < n := by omega
      clear hkl
      generalize nth l k = x at *
      by_cases hw : x.r = r
      · have e1 : (x.r == r) = true := by simpa using hw
        have HF := Lib.hid (HTA.out e1)
        clear HST HTA hw
        go_wp2
        go_ret
        exact ⟨ret_bool (by unfold hasD; rw [HF.out]), rfl⟩
      · have e1 : (x.r == r) = false := by simpa using hw
        have HF := Lib.hid (HST.out e1)
        clear HST HTA hw
        go_wp2
        go_round
        case rel => exact ⟨k + 1, by omega, by go_num, HF.out⟩
        case measure => simp [intOf]; omega
    · have HF := Lib.hid (any_end _ _ _ (by rw [← L1.out]; exact hlt) HA.out)
      go_wp2
      go_ret
      exact ⟨ret_bool (by unfold hasD; rw [HF.out]), rfl⟩
def PairAt (l : List Sq) (i j : Nat) (s : Int) : Prop := (nth l i).r = 0 ∧ (nth l j).r = 1 ∧ (nth l i).v = (nth l j).v ∧ (nth l i).d + (nth l j).d = s
/-- what pairs that were looked at tell -/
def SeenD (l : List Sq) (P : Nat → Nat → Prop) (b : Bool) (d : Int) : Prop :=
  (b = false → d = 0 ∧ ∀ i j s, P i j → ¬ PairAt l i j s) ∧ (b = true → (∃ i j, i < l.length ∧ j < l.length ∧ PairAt l i j d) ∧ ∀ i j s, P i j → PairAt l i j s → d ≤ s)
theorem seen_start (l : List Sq) : SeenD l (fun a c => a < 0 ∧ c < l.length) false 0 := ⟨fun _ => ⟨rfl, fun i j s h => by omega⟩, fun h => by cases h⟩
theorem seen_imp {l : List Sq} {P Q : Nat → Nat → Prop} {b : Bool} {d : Int} (h : SeenD l P b d) (hq : ∀ i j, Q i j → P i j) : SeenD l Q b d :=
  ⟨fun hb => ⟨(h.1 hb).1, fun i j s hp => (h.1 hb).2 i j s (hq i j hp)⟩, fun hb => ⟨(h.2 hb).1, fun i j s hp => (h.2 hb).2 i j s (hq i j hp)⟩⟩
theorem seen_skip {l : List Sq} {P Q : Nat → Nat → Prop} {b : Bool} {d : Int} {i k : Nat} (h : SeenD l P b d) (hq : ∀ a c, Q a c → (a = i ∧ c = k) ∨ P a c) (hs : ∀ s, PairAt l i k s → b = true ∧ d ≤ s) : SeenD l Q b d := by
  refine ⟨fun hb => ⟨(h.1 hb).1, fun a c s hp hpa => ?_⟩, fun hb => ⟨(h.2 hb).1, fun a c s hp hpa => ?_⟩⟩
  · rcases hq a c hp with ⟨rfl, rfl⟩ | h2
    · rw [(hs s hpa).1] at hb; cases hb
    · exact (h.1 hb).2 a c s h2 hpa
  · rcases hq a c hp with ⟨rfl, rfl⟩ | h2
    · exact (hs s hpa).2
    · exact (h.2 hb).2 a c s h2 hpa
theorem seen_put {l : List Sq} {P Q : Nat → Nat → Prop} {b : Bool} {d s : Int} {i k : Nat} (h : SeenD l P b d) (hi : i < l.length) (hk : k < l.length) (hq : ∀ a c, Q a c → (a = i ∧ c = k) ∨ P a c) (hs : PairAt l i k s) (hd : b = true → s ≤ d) : SeenD l Q true s := by
  refine ⟨fun hb => (by cases hb), fun _ => ⟨⟨i, k, hi, hk, hs⟩, fun a c s' hp hpa => ?_⟩⟩
  rcases hq a c hp with ⟨rfl, rfl⟩ | h2
  · have h1 := hs.2.2.2
    have h3 := hpa.2.2.2
    omega
  · cases b with
    | false => exact absurd hpa ((h.1 rfl).2 a c s' h2)
    | true => have := (h.2 rfl).2 a c s' h2 hpa; have := hd rfl; omega
theorem seen_end {l : List Sq} {b : Bool} {d : Int} (h : SeenD l (fun a c => a < l.length ∧ c < l.length) b d) : MeetA l b d := by
  have key : ∀ s, PairD l s → ∃ i j, (i < l.length ∧ j < l.length) ∧ PairAt l i j s := by
    rintro s ⟨x, hx, y, hy, h1, h2, h3, h4⟩
    obtain ⟨i, hi, rfl⟩ := List.mem_iff_getElem.1 hx
    obtain ⟨j, hj, rfl⟩ := List.mem_iff_getElem.1 hy
    refine ⟨i, j, ⟨hi, hj⟩, ?_⟩
    unfold PairAt
    rw [nth_eq hi, nth_eq hj]
    exact ⟨h1, h2, h3, h4⟩
  refine ⟨fun hb => ⟨(h.1 hb).1, fun s hs => ?_⟩, fun hb => ⟨?_, fun s hs => ?_⟩⟩
  · obtain ⟨i, j, hp, hpa⟩ := key s hs
    exact (h.1 hb).2 i j s hp hpa
  · obtain ⟨i, j, hi, hj, h1, h2, h3, h4⟩ := (h.2 hb).1
    rw [nth_eq hi] at h1 h3 h4
    rw [nth_eq hj] at h2 h3 h4
    exact ⟨l[i], List.getElem_mem _, l[j], List.getElem_mem _, h1, h2, h3, h4⟩
  · obtain ⟨i, j, hp, hpa⟩ := key s hs
    exact (h.2 hb).2 i j s hp hpa
end Go.Proofs.YtkekibnhmfmhmaaGreat
/- Chapter 18 (reference): dist. -/
namespace Go.Proofs.YtkekibnhmfmhmaaGreat
open Go Go.RowKit
def DistQ (l M : List Sq) (w : World) (e : Ending) (w' : World) : Prop := ∃ b d, e = .returned (.tuple #[.agg #[.bool b, .int .i64 d, .slice none 0 0], .bool (b || !hasD M 0 || !hasD M 1)]) ∧ Ext w w' ∧ MeetA l b d
theorem distQ_mk {l M : List Sq} {w w' : World} {e : Ending} {b : Bool} {d : Int} (h1 : e = .returned (.tuple #[.agg #[.bool b, .int .i64 d, .slice none 0 0], .bool (b || !hasD M 0 || !hasD M 1)])) (h2 : Ext w w') (h3 : MeetA l b d) : DistQ l M w e w' := ⟨b, d, h1, h2, h3⟩
set_option maxRecDepth 100000 in
set_option maxHeartbeats 16000000 in
theorem Dist18 (p : Option Addr) (n c : Nat) (l : List Sq) (pm : Option Addr) (nm cm : Nat) (M : List Sq) (w : World) (hl : Rd w 4 p n (encQ l)) (hM : Rd w 4 pm nm (encQ M)) (hb : ∀ x ∈ l, -1000000 ≤ x.d ∧ x.d ≤ 1000000) :
    Calls Tryz.prog 51 #[.slice p n c, .slice pm nm cm] w (DistQ l M w) := by
  have p1 := hl.ptr
  have n1 := hl.small
  have L1 := Lib.hid hl.nQ
  have HL := Lib.hid hl
  have HBD := Lib.hid hb
  have HM0 := Lib.hid (fun W (h : Ext w W) => Has18 pm nm cm M 0 W (hM.ext h))
  have HM1 := Lib.hid (fun W (h : Ext w W) => Has18 pm nm cm M 1 W (hM.ext h))
  have S0 := Lib.hid (((Sep.start w).al #[.bool false, .int .i64 0, .slice none 0 0] 33 w.heap.size rfl).al #[.bool false, .int .i64 0, .slice none 0 0] 33 (w.heap.size + 1) (by simp))
  clear hl hM hb
  go_enter Tryz.func51, Tryz.ntmps51
  go_wp2
  go_loopw [7, 8, 9, 10] (fun i _ _ _ wr => ∃ (j : Nat) (b : Bool) (d : Int), j ≤ n ∧ i = .int .i64 j ∧ Sep w wr [.blk (w.heap.size + 1) 33 #[.bool b, .int .i64 d, .slice none 0 0], .blk w.heap.size 33 #[.bool false, .int .i64 0, .slice none 0 0]] ∧ Hid (SeenD l (fun a c => a < j ∧ c < l.length) b d)) (fun i _ _ _ _ => n - (intOf i).toNat)
  case atStart => exact ⟨0, false, 0, Nat.zero_le _, rfl, S0.out, seen_start l⟩
  case round =>
    clear S0
    obtain ⟨j, b, d, hj, rfl, S, HS⟩ := hrel
    by_cases hlt : j < n
    · have d1 : (0:Int) ≤ j := by omega
      have d2 : (j:Int) < n := by omega
      have hjl : j < l.length := by rw [← L1.out]; exact hlt
      have HI : Hid (SeenD l (fun a c => (a < j ∧ c < l.length) ∨ (a = j ∧ c < 0)) b d) := seen_imp HS.out fun a c h => h.elim id fun h2 => by omega
      clear HS
      have SH := Lib.hid S; clear S
      go_wp2
      go_loopw [8, 9, 10] (fun i _ _ wr => ∃ (k : Nat) (b : Bool) (d : Int), k ≤ n ∧ i = .int .i64 k ∧ Sep w wr [.blk (w.heap.size + 1) 33 #[.bool b, .int .i64 d, .slice none 0 0], .blk w.heap.size 33 #[.bool false, .int .i64 0, .slice none 0 0]] ∧ Hid (SeenD l (fun a c => (a < j ∧ c < l.length) ∨ (a = j ∧ c < k)) b d)) (fun i _ _ _ => n - (intOf i).toNat)
      case atStart => exact ⟨0, b, d, Nat.zero_le _, rfl, SH.out, HI⟩
      case round =>
        clear SH HI b d
        obtain ⟨k, b, d, hk, rfl, S, HS⟩ := hrel
        by_cases hkl : k < n
        · have hkl2 : k < l.length := by rw [← L1.out]; exact hkl
          obtain ⟨g1, g2, g3, g4⟩ := (HL.out.ext S.ext).cQ hlt
          obtain ⟨e1, e2, e3, e4⟩ := (HL.out.ext S.ext).cQ hkl
          have hpb := (HL.out.ext S.ext).lt (by omega)
          have hbx := HBD.out (nth l j) (by rw [nth_eq hjl]; exact List.getElem_mem _)
          have hby := HBD.out (nth l k) (by rw [nth_eq hkl2]; exact List.getElem_mem _)
          have d3 : (0:Int) ≤ k := by omega
          have d4 : (k:Int) < n := by omega
          have HQ : Hid (∀ a c, ((a < j ∧ c < l.length) ∨ (a = j ∧ c < k + 1)) → (a = j ∧ c = k) ∨ ((a < j ∧ c < l.length) ∨ (a = j ∧ c < k))) := fun a c h => by omega
          have HSK := Lib.hid (fun hs => seen_skip (i := j) (k := k) HS.out HQ.out hs)
          have HPT := Lib.hid (fun s hs hd => seen_put (s := s) (i := j) (k := k) HS.out hjl hkl2 HQ.out hs hd)
          unfold PairAt at HSK HPT
          have b0 : wr.cell? ⟨w.heap.size + 1, 0, none⟩ = some (.bool b) := (S.blk 0 rfl).cell 0
          have b1 : wr.cell? ⟨w.heap.size + 1, 1, none⟩ = some (.int .i64 d) := (S.blk 0 rfl).cell 1
          have b2 : wr.cell? ⟨w.heap.size + 1, 2, none⟩ = some (.slice none 0 0) := (S.blk 0 rfl).cell 2
          have bz := (S.blk 0 rfl).lt
          have bz2 : w.heap.size < wr.heap.size := by omega
          have SH := Lib.hid S; clear S
          generalize nth l j = x at *
          generalize nth l k = y at *
          obtain ⟨hb1, hb2⟩ := hbx
          obtain ⟨hb3, hb4⟩ := hby
          clear HS HQ
          by_cases x1 : x.r = 0
          · have t1 : (x.r == 0) = true := by simpa using x1
            by_cases x2 : y.r = 1
            · have t2 : (y.r == 1) = true := by simpa using x2
              by_cases x3 : x.v = y.v
              · have t3 : (x.v == y.v) = true := by simpa using x3
                cases b with
                | false =>
                  have HN := Lib.hid (HPT.out (x.d + y.d) ⟨x1, x2, x3, rfl⟩ (fun h => by cases h))
                  clear HSK HPT x1 x2 x3
                  have hf0 := (SH.out.blk 0 rfl).frozen 0
                  have hf1 := (SH.out.blk 0 rfl).frozen 1
                  go_wp2
                  go_roundw
                  case rel => exact ⟨k + 1, true, x.d + y.d, by omega, by go_num, ((((SH.out.set 0 rfl 0 (.bool true)).set 0 rfl 1 (.int .i64 (x.d + y.d))).junk _).junk _), HN.out⟩
                  case measure => simp [intOf]; omega
                | true =>
                  by_cases x4 : x.d + y.d < d
                  · have HN := Lib.hid (HPT.out (x.d + y.d) ⟨x1, x2, x3, rfl⟩ (fun _ => by omega))
                    have t4 : decide (x.d + y.d < d) = true := by simpa using x4
                    clear HSK HPT x1 x2 x3 x4
                    have hf0 := (SH.out.blk 0 rfl).frozen 0
                    have hf1 := (SH.out.blk 0 rfl).frozen 1
                    go_wp2
                    go_roundw
                    case rel => exact ⟨k + 1, true, x.d + y.d, by omega, by go_num, ((((SH.out.set 0 rfl 0 (.bool true)).set 0 rfl 1 (.int .i64 (x.d + y.d))).junk _).junk _), HN.out⟩
                    case measure => simp [intOf]; omega
                  · have HN := Lib.hid (HSK.out (fun s h => ⟨rfl, by omega⟩))
                    have t4 : decide (x.d + y.d < d) = false := by simpa using x4
                    obtain ⟨b, hbb⟩ : ∃ b, b = true := ⟨_, rfl⟩
                    rw [← hbb] at HN SH b0
                    clear HSK HPT x1 x2 x3 x4
                    go_wp2
                    go_roundw
                    case rel => exact ⟨k + 1, b, d, by omega, by go_num, (SH.out.junk _).junk _, HN.out⟩
                    case measure => simp [intOf]; omega
              · have t3 : (x.v == y.v) = false := by simpa using x3
                have HN := Lib.hid (HSK.out (fun s h => absurd h.2.2.1 x3))
                clear HSK HPT x1 x2 x3
                go_wp2
                go_roundw
                case rel => exact ⟨k + 1, b, d, by omega, by go_num, (SH.out.junk _).junk _, HN.out⟩
                case measure => simp [intOf]; omega
            · have t2 : (y.r == 1) = false := by simpa using x2
              have HN := Lib.hid (HSK.out (fun s h => absurd h.2.1 x2))
              clear HSK HPT x1 x2
              go_wp2
              go_roundw
              case rel => exact ⟨k + 1, b, d, by omega, by go_num, (SH.out.junk _).junk _, HN.out⟩
              case measure => simp [intOf]; omega
          · have t1 : (x.r == 0) = false := by simpa using x1
            have HN := Lib.hid (HSK.out (fun s h => absurd h.1 x1))
            clear HSK HPT x1
            go_wp2
            go_roundw
            case rel => exact ⟨k + 1, b, d, by omega, by go_num, (SH.out.junk _).junk _, HN.out⟩
            case measure => simp [intOf]; omega
        · obtain rfl : k = n := by omega
          have HN : Hid (SeenD l (fun a c => a < j + 1 ∧ c < l.length) b d) := seen_imp HS.out fun a c h => by have := L1.out; omega
          clear HS
          have SH := Lib.hid S; clear S
          go_wp2
          go_roundw
          case rel => exact ⟨j + 1, b, d, by omega, by go_num, SH.out, HN.out⟩
          case measure => simp [intOf]; omega
    · obtain rfl : j = n := by omega
      have HA : Hid (MeetA l b d) := by
        have h := HS.out
        rw [L1.out] at h
        exact seen_end h
      clear HS
      have b0 : wr.cell? ⟨w.heap.size + 1, 0, none⟩ = some (.bool b) := (S.blk 0 rfl).cell 0
      have b1 : wr.cell? ⟨w.heap.size + 1, 1, none⟩ = some (.int .i64 d) := (S.blk 0 rfl).cell 1
      have b2 : wr.cell? ⟨w.heap.size + 1, 2, none⟩ = some (.slice none 0 0) := (S.blk 0 rfl).cell 2
      have bz := (S.blk 0 rfl).lt
      have bz2 : w.heap.size < wr.heap.size := by omega
      have SH := Lib.hid S; clear S
      go_wp2
      cases b with
      | true =>
        have HD : Hid ((true || !hasD M 0 || !hasD M 1) = true) := rfl
        refine wp_region_noPanic ?_
        refine wp_region_held_drew (S := fun w' => w'.cell? ⟨w.heap.size + 1, 0, none⟩ = some (.bool true) ∧ w'.cell? ⟨w.heap.size + 1, 1, none⟩ = some (.int .i64 d) ∧ w'.cell? ⟨w.heap.size + 1, 2, none⟩ = some (.slice none 0 0)) (by kernel_rfl) ⟨b0, b1, b2⟩ (fun hHeld => ?_)
        have SD := Lib.hid SH.out.drew
        clear b0 b1 b2 bz bz2 SH
        generalize wr.drew = D at SD hHeld ⊢
        refine wpAnyH_take (i := 0) (v := .agg #[.bool true, .int .i64 d, .slice none 0 0]) rfl (by kernel_rfl) (by kernel_rfl) (by kernel_rfl) (noPanic_q _ _) (Or.inl ⟨by kernel_rfl, fun W hSw => by obtain ⟨h1, h2, h3⟩ := hSw; go_simp⟩) hHeld ?_
        refine wpAnyH_take (i := 1) (v := .pointer (some ⟨w.heap.size + 1, 0, none⟩)) rfl (by kernel_rfl) (by kernel_rfl) (by kernel_rfl) (noPanic_q _ _) (Or.inl ⟨by kernel_rfl, fun W hSw => by obtain ⟨h1, h2, h3⟩ := hSw; go_simp⟩) hHeld ?_
        refine wpAnyH_take (i := 2) (v := .bool true) rfl (by kernel_rfl) (by kernel_rfl) (by kernel_rfl) (noPanic_q _ _) (Or.inl ⟨by kernel_rfl, fun W hSw => by obtain ⟨h1, h2, h3⟩ := hSw; go_simp⟩) hHeld ?_
        refine wpAnyH_take (i := 3) (v := .bool true) rfl (by kernel_rfl) (by kernel_rfl) (by kernel_rfl) (noPanic_q _ _) (Or.inl ⟨by kernel_rfl, fun W hSw => by obtain ⟨h1, h2, h3⟩ := hSw; go_simp⟩) hHeld ?_
        refine wpAnyH_take (i := 4) (v := undef) rfl (by kernel_rfl) (by kernel_rfl) (by kernel_rfl) (noPanic_q _ _) (Or.inr ⟨by kernel_rfl, rfl⟩) hHeld ?_
        refine wpAnyH_take (i := 5) (v := undef) rfl (by kernel_rfl) (by kernel_rfl) (by kernel_rfl) (noPanic_q _ _) (Or.inr ⟨by kernel_rfl, rfl⟩) hHeld ?_
        refine wpAnyH_take (i := 6) (v := undef) rfl (by kernel_rfl) (by kernel_rfl) (by kernel_rfl) (noPanic_q _ _) (Or.inr ⟨by kernel_rfl, rfl⟩) hHeld ?_
        refine wpAnyH_take (i := 7) (v := .bool true) rfl (by kernel_rfl) (by kernel_rfl) (by kernel_rfl) (noPanic_q _ _) (Or.inl ⟨by kernel_rfl, fun W hSw => by obtain ⟨h1, h2, h3⟩ := hSw; go_simp⟩) hHeld ?_
        refine wpAnyH_take (i := 8) (v := .bool true) rfl (by kernel_rfl) (by kernel_rfl) (by kernel_rfl) (noPanic_q _ _) (Or.inl ⟨by kernel_rfl, fun W hSw => by obtain ⟨h1, h2, h3⟩ := hSw; go_simp⟩) hHeld ?_
        refine wpAnyH_take (i := 9) (v := undef) rfl (by kernel_rfl) (by kernel_rfl) (by kernel_rfl) (noPanic_q _ _) (Or.inr ⟨by kernel_rfl, rfl⟩) hHeld ?_
        refine wpAnyH_take (i := 10) (v := undef) rfl (by kernel_rfl) (by kernel_rfl) (by kernel_rfl) (noPanic_q _ _) (Or.inr ⟨by kernel_rfl, rfl⟩) hHeld ?_
        refine wpAnyH_take (i := 11) (v := undef) rfl (by kernel_rfl) (by kernel_rfl) (by kernel_rfl) (noPanic_q _ _) (Or.inr ⟨by kernel_rfl, rfl⟩) hHeld ?_
        refine wpAnyH_take (i := 12) (v := .bool true) rfl (by kernel_rfl) (by kernel_rfl) (by kernel_rfl) (noPanic_q _ _) (Or.inl ⟨by kernel_rfl, fun W hSw => by obtain ⟨h1, h2, h3⟩ := hSw; go_simp⟩) hHeld ?_
        have a0 := (SD.out.blk 1 rfl).cell 0
        have a1 := (SD.out.blk 1 rfl).cell 1
        have a2 := (SD.out.blk 1 rfl).cell 2
        have az := (SD.out.blk 1 rfl).lt
        have f0 := (SD.out.blk 1 rfl).frozen 0
        have f1 := (SD.out.blk 1 rfl).frozen 1
        have f2 := (SD.out.blk 1 rfl).frozen 2
        have S9 := Lib.hid (((SD.out.set 1 rfl 0 (.bool true)).set 1 rfl 1 (.int .i64 d)).set 1 rfl 2 (.slice none 0 0))
        refine wpAnyH_ready (rs := [13]) (by kernel_rfl) (by simp) (AllReadyH.cons rfl (fun K hK => ?_) AllReadyH.nil)
        go_simp
        have c0 := (S9.out.blk 0 rfl).cell 0
        have c1 := (S9.out.blk 0 rfl).cell 1
        have c2 := (S9.out.blk 0 rfl).cell 2
        refine hK.out _ _ ⟨c0, c1, c2⟩ (fun hHeld => ?_)
        clear hK
        refine wpAnyH_take (i := 14) (v := .bool true) rfl (by kernel_rfl) (by kernel_rfl) (by kernel_rfl) (noPanic_q _ _) (Or.inl ⟨by kernel_rfl, fun W hSw => by obtain ⟨h1, h2, h3⟩ := hSw; go_simp⟩) hHeld ?_
        refine wpAnyH_done (by kernel_rfl) ?_ _
        refine noPanic_mk ?_
        have x0 := (S9.out.blk 1 rfl).cell 0
        have x1 := (S9.out.blk 1 rfl).cell 1
        have x2 := (S9.out.blk 1 rfl).cell 2
        go_wp2
        exact bodyPost_ret (v := .tuple #[.agg #[.bool true, .int .i64 d, .slice none 0 0], .bool true]) (by simp [results, Tryz.results51, go_sem, x0, x1, x2, Tryz.sizeOf33, Tryz.isAgg33]) rfl (distQ_mk (by rw [HD.out]) S9.out.ext HA.out)
      | false =>
        cases h0 : hasD M 0 with
        | false =>
          have HD : Hid ((false || !hasD M 0 || !hasD M 1) = true) := by unfold Hid; rw [h0]; rfl
          rw [h0] at HM0
          clear h0
          refine wp_region_noPanic ?_
          refine wp_region_held_drew (S := fun w' => w'.cell? ⟨w.heap.size + 1, 0, none⟩ = some (.bool false) ∧ w'.cell? ⟨w.heap.size + 1, 1, none⟩ = some (.int .i64 d) ∧ w'.cell? ⟨w.heap.size + 1, 2, none⟩ = some (.slice none 0 0)) (by kernel_rfl) ⟨b0, b1, b2⟩ (fun hHeld => ?_)
          have SD := Lib.hid SH.out.drew
          clear b0 b1 b2 bz bz2 SH
          generalize wr.drew = D at SD hHeld ⊢
          refine wpAnyH_take (i := 0) (v := .agg #[.bool false, .int .i64 d, .slice none 0 0]) rfl (by kernel_rfl) (by kernel_rfl) (by kernel_rfl) (noPanic_q _ _) (Or.inl ⟨by kernel_rfl, fun W hSw => by obtain ⟨h1, h2, h3⟩ := hSw; go_simp⟩) hHeld ?_
          refine wpAnyH_take (i := 1) (v := .pointer (some ⟨w.heap.size + 1, 0, none⟩)) rfl (by kernel_rfl) (by kernel_rfl) (by kernel_rfl) (noPanic_q _ _) (Or.inl ⟨by kernel_rfl, fun W hSw => by obtain ⟨h1, h2, h3⟩ := hSw; go_simp⟩) hHeld ?_
          refine wpAnyH_take (i := 2) (v := .bool false) rfl (by kernel_rfl) (by kernel_rfl) (by kernel_rfl) (noPanic_q _ _) (Or.inl ⟨by kernel_rfl, fun W hSw => by obtain ⟨h1, h2, h3⟩ := hSw; go_simp⟩) hHeld ?_
          refine wpAnyH_take (i := 3) (v := .bool false) rfl (by kernel_rfl) (by kernel_rfl) (by kernel_rfl) (noPanic_q _ _) (Or.inl ⟨by kernel_rfl, fun W hSw => by obtain ⟨h1, h2, h3⟩ := hSw; go_simp⟩) hHeld ?_
          refine wpAnyH_take (i := 4) (v := .slice pm nm cm) rfl (by kernel_rfl) (by kernel_rfl) (by kernel_rfl) (noPanic_q _ _) (Or.inl ⟨by kernel_rfl, fun W hSw => by obtain ⟨h1, h2, h3⟩ := hSw; go_simp⟩) hHeld ?_
          refine wpAnyH_ready (rs := [5]) (by kernel_rfl) (by simp) (AllReadyH.cons rfl (fun K hK => ?_) AllReadyH.nil)
          go_simp
          refine (HM0.out _ SD.out.ext).mono ?_
          rintro e w5 ⟨rfl, hx⟩
          have hx := hx.symm
          subst hx
          refine hK.out _ _ hHeld (fun hHeld => ?_)
          clear hK
          refine wpAnyH_take (i := 6) (v := .bool true) rfl (by kernel_rfl) (by kernel_rfl) (by kernel_rfl) (noPanic_q _ _) (Or.inl ⟨by kernel_rfl, fun W hSw => by obtain ⟨h1, h2, h3⟩ := hSw; go_simp⟩) hHeld ?_
          refine wpAnyH_take (i := 7) (v := .bool true) rfl (by kernel_rfl) (by kernel_rfl) (by kernel_rfl) (noPanic_q _ _) (Or.inl ⟨by kernel_rfl, fun W hSw => by obtain ⟨h1, h2, h3⟩ := hSw; go_simp⟩) hHeld ?_
          refine wpAnyH_take (i := 8) (v := .bool true) rfl (by kernel_rfl) (by kernel_rfl) (by kernel_rfl) (noPanic_q _ _) (Or.inl ⟨by kernel_rfl, fun W hSw => by obtain ⟨h1, h2, h3⟩ := hSw; go_simp⟩) hHeld ?_
          refine wpAnyH_take (i := 9) (v := undef) rfl (by kernel_rfl) (by kernel_rfl) (by kernel_rfl) (noPanic_q _ _) (Or.inr ⟨by kernel_rfl, rfl⟩) hHeld ?_
          refine wpAnyH_take (i := 10) (v := undef) rfl (by kernel_rfl) (by kernel_rfl) (by kernel_rfl) (noPanic_q _ _) (Or.inr ⟨by kernel_rfl, rfl⟩) hHeld ?_
          refine wpAnyH_take (i := 11) (v := undef) rfl (by kernel_rfl) (by kernel_rfl) (by kernel_rfl) (noPanic_q _ _) (Or.inr ⟨by kernel_rfl, rfl⟩) hHeld ?_
          refine wpAnyH_take (i := 12) (v := .bool true) rfl (by kernel_rfl) (by kernel_rfl) (by kernel_rfl) (noPanic_q _ _) (Or.inl ⟨by kernel_rfl, fun W hSw => by obtain ⟨h1, h2, h3⟩ := hSw; go_simp⟩) hHeld ?_
          have a0 := (SD.out.blk 1 rfl).cell 0
          have a1 := (SD.out.blk 1 rfl).cell 1
          have a2 := (SD.out.blk 1 rfl).cell 2
          have az := (SD.out.blk 1 rfl).lt
          have f0 := (SD.out.blk 1 rfl).frozen 0
          have f1 := (SD.out.blk 1 rfl).frozen 1
          have f2 := (SD.out.blk 1 rfl).frozen 2
          have S9 := Lib.hid (((SD.out.set 1 rfl 0 (.bool false)).set 1 rfl 1 (.int .i64 d)).set 1 rfl 2 (.slice none 0 0))
          refine wpAnyH_ready (rs := [13]) (by kernel_rfl) (by simp) (AllReadyH.cons rfl (fun K hK => ?_) AllReadyH.nil)
          go_simp
          have c0 := (S9.out.blk 0 rfl).cell 0
          have c1 := (S9.out.blk 0 rfl).cell 1
          have c2 := (S9.out.blk 0 rfl).cell 2
          refine hK.out _ _ ⟨c0, c1, c2⟩ (fun hHeld => ?_)
          clear hK
          refine wpAnyH_take (i := 14) (v := .bool true) rfl (by kernel_rfl) (by kernel_rfl) (by kernel_rfl) (noPanic_q _ _) (Or.inl ⟨by kernel_rfl, fun W hSw => by obtain ⟨h1, h2, h3⟩ := hSw; go_simp⟩) hHeld ?_
          refine wpAnyH_done (by kernel_rfl) ?_ _
          refine noPanic_mk ?_
          have x0 := (S9.out.blk 1 rfl).cell 0
          have x1 := (S9.out.blk 1 rfl).cell 1
          have x2 := (S9.out.blk 1 rfl).cell 2
          go_wp2
          exact bodyPost_ret (v := .tuple #[.agg #[.bool false, .int .i64 d, .slice none 0 0], .bool true]) (by simp [results, Tryz.results51, go_sem, x0, x1, x2, Tryz.sizeOf33, Tryz.isAgg33]) rfl (distQ_mk (by rw [HD.out]) S9.out.ext HA.out)
        | true =>
          rw [h0] at HM0
          cases h1 : hasD M 1 with
          | false =>
            have HD : Hid ((false || !hasD M 0 || !hasD M 1) = true) := by unfold Hid; rw [h1]; simp
            rw [h1] at HM1
            clear h0 h1
            refine wp_region_noPanic ?_
            refine wp_region_held_drew (S := fun w' => w'.cell? ⟨w.heap.size + 1, 0, none⟩ = some (.bool false) ∧ w'.cell? ⟨w.heap.size + 1, 1, none⟩ = some (.int .i64 d) ∧ w'.cell? ⟨w.heap.size + 1, 2, none⟩ = some (.slice none 0 0)) (by kernel_rfl) ⟨b0, b1, b2⟩ (fun hHeld => ?_)
            have SD := Lib.hid SH.out.drew
            clear b0 b1 b2 bz bz2 SH
            generalize wr.drew = D at SD hHeld ⊢
            refine wpAnyH_take (i := 0) (v := .agg #[.bool false, .int .i64 d, .slice none 0 0]) rfl (by kernel_rfl) (by kernel_rfl) (by kernel_rfl) (noPanic_q _ _) (Or.inl ⟨by kernel_rfl, fun W hSw => by obtain ⟨h1, h2, h3⟩ := hSw; go_simp⟩) hHeld ?_
            refine wpAnyH_take (i := 1) (v := .pointer (some ⟨w.heap.size + 1, 0, none⟩)) rfl (by kernel_rfl) (by kernel_rfl) (by kernel_rfl) (noPanic_q _ _) (Or.inl ⟨by kernel_rfl, fun W hSw => by obtain ⟨h1, h2, h3⟩ := hSw; go_simp⟩) hHeld ?_
            refine wpAnyH_take (i := 2) (v := .bool false) rfl (by kernel_rfl) (by kernel_rfl) (by kernel_rfl) (noPanic_q _ _) (Or.inl ⟨by kernel_rfl, fun W hSw => by obtain ⟨h1, h2, h3⟩ := hSw; go_simp⟩) hHeld ?_
            refine wpAnyH_take (i := 3) (v := .bool false) rfl (by kernel_rfl) (by kernel_rfl) (by kernel_rfl) (noPanic_q _ _) (Or.inl ⟨by kernel_rfl, fun W hSw => by obtain ⟨h1, h2, h3⟩ := hSw; go_simp⟩) hHeld ?_
            refine wpAnyH_take (i := 4) (v := .slice pm nm cm) rfl (by kernel_rfl) (by kernel_rfl) (by kernel_rfl) (noPanic_q _ _) (Or.inl ⟨by kernel_rfl, fun W hSw => by obtain ⟨h1, h2, h3⟩ := hSw; go_simp⟩) hHeld ?_
            refine wpAnyH_ready (rs := [5]) (by kernel_rfl) (by simp) (AllReadyH.cons rfl (fun K hK => ?_) AllReadyH.nil)
            go_simp
            refine (HM0.out _ SD.out.ext).mono ?_
            rintro e w5 ⟨rfl, hx⟩
            have hx := hx.symm
            subst hx
            refine hK.out _ _ hHeld (fun hHeld => ?_)
            clear hK
            refine wpAnyH_take (i := 6) (v := .bool false) rfl (by kernel_rfl) (by kernel_rfl) (by kernel_rfl) (noPanic_q _ _) (Or.inl ⟨by kernel_rfl, fun W hSw => by obtain ⟨h1, h2, h3⟩ := hSw; go_simp⟩) hHeld ?_
            refine wpAnyH_take (i := 7) (v := .bool false) rfl (by kernel_rfl) (by kernel_rfl) (by kernel_rfl) (noPanic_q _ _) (Or.inl ⟨by kernel_rfl, fun W hSw => by obtain ⟨h1, h2, h3⟩ := hSw; go_simp⟩) hHeld ?_
            refine wpAnyH_take (i := 8) (v := .bool false) rfl (by kernel_rfl) (by kernel_rfl) (by kernel_rfl) (noPanic_q _ _) (Or.inl ⟨by kernel_rfl, fun W hSw => by obtain ⟨h1, h2, h3⟩ := hSw; go_simp⟩) hHeld ?_
            refine wpAnyH_take (i := 9) (v := .slice pm nm cm) rfl (by kernel_rfl) (by kernel_rfl) (by kernel_rfl) (noPanic_q _ _) (Or.inl ⟨by kernel_rfl, fun W hSw => by obtain ⟨h1, h2, h3⟩ := hSw; go_simp⟩) hHeld ?_
            refine wpAnyH_ready (rs := [10]) (by kernel_rfl) (by simp) (AllReadyH.cons rfl (fun K hK => ?_) AllReadyH.nil)
            go_simp
            refine (HM1.out _ SD.out.ext).mono ?_
            rintro e w5 ⟨rfl, hx⟩
            have hx := hx.symm
            subst hx
            refine hK.out _ _ hHeld (fun hHeld => ?_)
            clear hK
            refine wpAnyH_take (i := 11) (v := .bool true) rfl (by kernel_rfl) (by kernel_rfl) (by kernel_rfl) (noPanic_q _ _) (Or.inl ⟨by kernel_rfl, fun W hSw => by obtain ⟨h1, h2, h3⟩ := hSw; go_simp⟩) hHeld ?_
            refine wpAnyH_take (i := 12) (v := .bool true) rfl (by kernel_rfl) (by kernel_rfl) (by kernel_rfl) (noPanic_q _ _) (Or.inl ⟨by kernel_rfl, fun W hSw => by obtain ⟨h1, h2, h3⟩ := hSw; go_simp⟩) hHeld ?_
            have a0 := (SD.out.blk 1 rfl).cell 0
            have a1 := (SD.out.blk 1 rfl).cell 1
            have a2 := (SD.out.blk 1 rfl).cell 2
            have az := (SD.out.blk 1 rfl).lt
            have f0 := (SD.out.blk 1 rfl).frozen 0
            have f1 := (SD.out.blk 1 rfl).frozen 1
            have f2 := (SD.out.blk 1 rfl).frozen 2
            have S9 := Lib.hid (((SD.out.set 1 rfl 0 (.bool false)).set 1 rfl 1 (.int .i64 d)).set 1 rfl 2 (.slice none 0 0))
            refine wpAnyH_ready (rs := [13]) (by kernel_rfl) (by simp) (AllReadyH.cons rfl (fun K hK => ?_) AllReadyH.nil)
            go_simp
            have c0 := (S9.out.blk 0 rfl).cell 0
            have c1 := (S9.out.blk 0 rfl).cell 1
            have c2 := (S9.out.blk 0 rfl).cell 2
            refine hK.out _ _ ⟨c0, c1, c2⟩ (fun hHeld => ?_)
            clear hK
            refine wpAnyH_take (i := 14) (v := .bool true) rfl (by kernel_rfl) (by kernel_rfl) (by kernel_rfl) (noPanic_q _ _) (Or.inl ⟨by kernel_rfl, fun W hSw => by obtain ⟨h1, h2, h3⟩ := hSw; go_simp⟩) hHeld ?_
            refine wpAnyH_done (by kernel_rfl) ?_ _
            refine noPanic_mk ?_
            have x0 := (S9.out.blk 1 rfl).cell 0
            have x1 := (S9.out.blk 1 rfl).cell 1
            have x2 := (S9.out.blk 1 rfl).cell 2
            go_wp2
            exact bodyPost_ret (v := .tuple #[.agg #[.bool false, .int .i64 d, .slice none 0 0], .bool true]) (by simp [results, Tryz.results51, go_sem, x0, x1, x2, Tryz.sizeOf33, Tryz.isAgg33]) rfl (distQ_mk (by rw [HD.out]) S9.out.ext HA.out)
          | true =>
            have HD : Hid ((false || !hasD M 0 || !hasD M 1) = false) := by unfold Hid; rw [h0, h1]; rfl
            rw [h1] at HM1
            clear h0 h1
            refine wp_region_noPanic ?_
            refine wp_region_held_drew (S := fun w' => w'.cell? ⟨w.heap.size + 1, 0, none⟩ = some (.bool false) ∧ w'.cell? ⟨w.heap.size + 1, 1, none⟩ = some (.int .i64 d) ∧ w'.cell? ⟨w.heap.size + 1, 2, none⟩ = some (.slice none 0 0)) (by kernel_rfl) ⟨b0, b1, b2⟩ (fun hHeld => ?_)
            have SD := Lib.hid SH.out.drew
            clear b0 b1 b2 bz bz2 SH
            generalize wr.drew = D at SD hHeld ⊢
            refine wpAnyH_take (i := 0) (v := .agg #[.bool false, .int .i64 d, .slice none 0 0]) rfl (by kernel_rfl) (by kernel_rfl) (by kernel_rfl) (noPanic_q _ _) (Or.inl ⟨by kernel_rfl, fun W hSw => by obtain ⟨h1, h2, h3⟩ := hSw; go_simp⟩) hHeld ?_
            refine wpAnyH_take (i := 1) (v := .pointer (some ⟨w.heap.size + 1, 0, none⟩)) rfl (by kernel_rfl) (by kernel_rfl) (by kernel_rfl) (noPanic_q _ _) (Or.inl ⟨by kernel_rfl, fun W hSw => by obtain ⟨h1, h2, h3⟩ := hSw; go_simp⟩) hHeld ?_
            refine wpAnyH_take (i := 2) (v := .bool false) rfl (by kernel_rfl) (by kernel_rfl) (by kernel_rfl) (noPanic_q _ _) (Or.inl ⟨by kernel_rfl, fun W hSw => by obtain ⟨h1, h2, h3⟩ := hSw; go_simp⟩) hHeld ?_
            refine wpAnyH_take (i := 3) (v := .bool false) rfl (by kernel_rfl) (by kernel_rfl) (by kernel_rfl) (noPanic_q _ _) (Or.inl ⟨by kernel_rfl, fun W hSw => by obtain ⟨h1, h2, h3⟩ := hSw; go_simp⟩) hHeld ?_
            refine wpAnyH_take (i := 4) (v := .slice pm nm cm) rfl (by kernel_rfl) (by kernel_rfl) (by kernel_rfl) (noPanic_q _ _) (Or.inl ⟨by kernel_rfl, fun W hSw => by obtain ⟨h1, h2, h3⟩ := hSw; go_simp⟩) hHeld ?_
            refine wpAnyH_ready (rs := [5]) (by kernel_rfl) (by simp) (AllReadyH.cons rfl (fun K hK => ?_) AllReadyH.nil)
            go_simp
            refine (HM0.out _ SD.out.ext).mono ?_
            rintro e w5 ⟨rfl, hx⟩
            have hx := hx.symm
            subst hx
            refine hK.out _ _ hHeld (fun hHeld => ?_)
            clear hK
            refine wpAnyH_take (i := 6) (v := .bool false) rfl (by kernel_rfl) (by kernel_rfl) (by kernel_rfl) (noPanic_q _ _) (Or.inl ⟨by kernel_rfl, fun W hSw => by obtain ⟨h1, h2, h3⟩ := hSw; go_simp⟩) hHeld ?_
            refine wpAnyH_take (i := 7) (v := .bool false) rfl (by kernel_rfl) (by kernel_rfl) (by kernel_rfl) (noPanic_q _ _) (Or.inl ⟨by kernel_rfl, fun W hSw => by obtain ⟨h1, h2, h3⟩ := hSw; go_simp⟩) hHeld ?_
            refine wpAnyH_take (i := 8) (v := .bool false) rfl (by kernel_rfl) (by kernel_rfl) (by kernel_rfl) (noPanic_q _ _) (Or.inl ⟨by kernel_rfl, fun W hSw => by obtain ⟨h1, h2, h3⟩ := hSw; go_simp⟩) hHeld ?_
            refine wpAnyH_take (i := 9) (v := .slice pm nm cm) rfl (by kernel_rfl) (by kernel_rfl) (by kernel_rfl) (noPanic_q _ _) (Or.inl ⟨by kernel_rfl, fun W hSw => by obtain ⟨h1, h2, h3⟩ := hSw; go_simp⟩) hHeld ?_
            refine wpAnyH_ready (rs := [10]) (by kernel_rfl) (by simp) (AllReadyH.cons rfl (fun K hK => ?_) AllReadyH.nil)
            go_simp
            refine (HM1.out _ SD.out.ext).mono ?_
            rintro e w5 ⟨rfl, hx⟩
            have hx := hx.symm
            subst hx
            refine hK.out _ _ hHeld (fun hHeld => ?_)
            clear hK
            refine wpAnyH_take (i := 11) (v := .bool false) rfl (by kernel_rfl) (by kernel_rfl) (by kernel_rfl) (noPanic_q _ _) (Or.inl ⟨by kernel_rfl, fun W hSw => by obtain ⟨h1, h2, h3⟩ := hSw; go_simp⟩) hHeld ?_
            refine wpAnyH_take (i := 12) (v := .bool false) rfl (by kernel_rfl) (by kernel_rfl) (by kernel_rfl) (noPanic_q _ _) (Or.inl ⟨by kernel_rfl, fun W hSw => by obtain ⟨h1, h2, h3⟩ := hSw; go_simp⟩) hHeld ?_
            have a0 := (SD.out.blk 1 rfl).cell 0
            have a1 := (SD.out.blk 1 rfl).cell 1
            have a2 := (SD.out.blk 1 rfl).cell 2
            have az := (SD.out.blk 1 rfl).lt
            have f0 := (SD.out.blk 1 rfl).frozen 0
            have f1 := (SD.out.blk 1 rfl).frozen 1
            have f2 := (SD.out.blk 1 rfl).frozen 2
            have S9 := Lib.hid (((SD.out.set 1 rfl 0 (.bool false)).set 1 rfl 1 (.int .i64 d)).set 1 rfl 2 (.slice none 0 0))
            refine wpAnyH_ready (rs := [13]) (by kernel_rfl) (by simp) (AllReadyH.cons rfl (fun K hK => ?_) AllReadyH.nil)
            go_simp
            have c0 := (S9.out.blk 0 rfl).cell 0
            have c1 := (S9.out.blk 0 rfl).cell 1
            have c2 := (S9.out.blk 0 rfl).cell 2
            refine hK.out _ _ ⟨c0, c1, c2⟩ (fun hHeld => ?_)
            clear hK
            refine wpAnyH_take (i := 14) (v := .bool false) rfl (by kernel_rfl) (by kernel_rfl) (by kernel_rfl) (noPanic_q _ _) (Or.inl ⟨by kernel_rfl, fun W hSw => by obtain ⟨h1, h2, h3⟩ := hSw; go_simp⟩) hHeld ?_
            refine wpAnyH_done (by kernel_rfl) ?_ _
            refine noPanic_mk ?_
            have x0 := (S9.out.blk 1 rfl).cell 0
            have x1 := (S9.out.blk 1 rfl).cell 1
            have x2 := (S9.out.blk 1 rfl).cell 2
            go_wp2
            exact bodyPost_ret (v := .tuple #[.agg #[.bool false, .int .i64 d, .slice none 0 0], .bool false]) (by simp [results, Tryz.results51, go_sem, x0, x1, x2, Tryz.sizeOf33, Tryz.isAgg33]) rfl (distQ_mk (by rw [HD.out]) S9.out.ext HA.out)
end Go.Proofs.YtkekibnhmfmhmaaGreat
/- The order of hits (chapter 9), in plain Lean. -/
namespace Go.Proofs.YtkekibnhmfmhmaaGreat
open Go Go.RowKit
/-- the nearer first; of as near ones the lesser place -/
def ltN (a b : Int × Int) : Bool := decide (a.2 < b.2) || (decide (a.2 = b.2) && decide (a.1 < b.1))
theorem ltN_iff {a b : Int × Int} : ltN a b = true ↔ a.2 < b.2 ∨ (a.2 = b.2 ∧ a.1 < b.1) := by
  unfold ltN
  rw [Bool.or_eq_true, Bool.and_eq_true, decide_eq_true_eq, decide_eq_true_eq, decide_eq_true_eq]
theorem ltN_no {a b : Int × Int} : ltN a b = false ↔ ¬ (a.2 < b.2 ∨ (a.2 = b.2 ∧ a.1 < b.1)) := by
  rw [← ltN_iff]; simp
theorem stoN : STO ltN where
  irrefl a := by rw [ltN_no]; omega
  trans a b c h k := by rw [ltN_iff] at *; omega
  tri a b h k := by rw [ltN_no] at *; exact Prod.ext (by omega) (by omega)
end Go.Proofs.YtkekibnhmfmhmaaGreat
/- What is near (chapter 9), in plain Lean: places that are near enough, in their order. -/
namespace Go.Proofs.YtkekibnhmfmhmaaGreat
open Go Go.RowKit
/-- a place that has a level, and no greater one -/
def goodN (d : List Int) (rad v : Int) : Bool := decide (0 ≤ v) && decide (v < d.length) && decide (0 ≤ nth d v.toNat) && decide (nth d v.toNat ≤ rad)
theorem goodN_iff {d : List Int} {rad v : Int} : goodN d rad v = true ↔ 0 ≤ v ∧ v < d.length ∧ 0 ≤ nth d v.toNat ∧ nth d v.toNat ≤ rad := by
  unfold goodN
  rw [Bool.and_eq_true, Bool.and_eq_true, Bool.and_eq_true, decide_eq_true_eq, decide_eq_true_eq, decide_eq_true_eq, decide_eq_true_eq]
  constructor
  · rintro ⟨⟨⟨h1, h2⟩, h3⟩, h4⟩; exact ⟨h1, h2, h3, h4⟩
  · rintro ⟨h1, h2, h3, h4⟩; exact ⟨⟨⟨h1, h2⟩, h3⟩, h4⟩
def hitN (d : List Int) (v : Int) : Int × Int := (v, nth d v.toNat)
/-- the hits of places, as they come -/
def gatN (d : List Int) (rad : Int) (P : List Int) : List (Int × Int) := (P.filter (goodN d rad)).map (hitN d)
theorem gatN_snoc (d : List Int) (rad : Int) (P : List Int) (v : Int) : gatN d rad (P ++ [v]) = if goodN d rad v = true then gatN d rad P ++ [hitN d v] else gatN d rad P := by
  unfold gatN
  rw [List.filter_append, List.map_append]
  by_cases h : goodN d rad v = true
  · rw [if_pos h]; simp [h]
  · rw [if_neg h]; simp [h]
theorem gatN_mem {d : List Int} {rad : Int} {P : List Int} {x : Int × Int} : x ∈ gatN d rad P ↔ ∃ v ∈ P, goodN d rad v = true ∧ x = (v, nth d v.toNat) := by
  unfold gatN
  rw [List.mem_map]
  constructor
  · rintro ⟨v, h, rfl⟩
    rw [List.mem_filter] at h
    exact ⟨v, h.1, h.2, rfl⟩
  · rintro ⟨v, h1, h2, rfl⟩
    exact ⟨v, List.mem_filter.2 ⟨h1, h2⟩, rfl⟩
theorem gatN_nodup {d : List Int} {rad : Int} {P : List Int} (h : P.Nodup) : (gatN d rad P).Nodup := by
  unfold gatN
  have h1 : (P.filter (goodN d rad)).Nodup := h.filter _
  unfold List.Nodup at h1 ⊢
  exact List.pairwise_map.2 (h1.imp fun {a b} hne e => hne (congrArg Prod.fst e))
theorem gatN_len (d : List Int) (rad : Int) (P : List Int) : (gatN d rad P).length ≤ P.length := by
  unfold gatN
  rw [List.length_map]
  exact List.length_filter_le _ _
theorem gatN_take (d : List Int) (rad : Int) {P : List Int} {k : Nat} (hk : k < P.length) : gatN d rad (P.take (k + 1)) = if goodN d rad (nth P k) = true then gatN d rad (P.take k) ++ [hitN d (nth P k)] else gatN d rad (P.take k) := by
  rw [take_succ_nth P k hk, gatN_snoc]
/-- one is put in its place: behind all that it does not come ahead of -/
def atN (x : Int × Int) : List (Int × Int) → Nat
  | [] => 0
  | y :: l => if ltN x y = true then 0 else atN x l + 1
theorem atN_le (x : Int × Int) : ∀ l, atN x l ≤ l.length
  | [] => Nat.le_refl _
  | y :: l => by
    rw [atN]
    split
    · exact Nat.zero_le _
    · rw [List.length_cons]; exact Nat.succ_le_succ (atN_le x l)
theorem atN_before {x : Int × Int} : ∀ {l : List (Int × Int)} {i : Nat}, i < atN x l → ltN x (nth l i) = false
  | [], i, h => by rw [atN] at h; omega
  | y :: l, i, h => by
    rw [atN] at h
    by_cases e : ltN x y = true
    · rw [if_pos e] at h; omega
    · rw [if_neg e] at h
      cases i with
      | zero => show ltN x y = false; simpa using e
      | succ i => exact atN_before (l := l) (by omega)
theorem atN_at {x : Int × Int} : ∀ {l : List (Int × Int)}, atN x l < l.length → ltN x (nth l (atN x l)) = true
  | [], h => by simp at h
  | y :: l, h => by
    rw [atN] at h ⊢
    by_cases e : ltN x y = true
    · rw [if_pos e]; exact e
    · rw [if_neg e] at h ⊢
      exact atN_at (l := l) (by rw [List.length_cons] at h; omega)
theorem atN_eq {x : Int × Int} {l : List (Int × Int)} {k : Nat} (hk : k ≤ l.length) (h1 : ∀ i, i < k → ltN x (nth l i) = false) (h2 : k < l.length → ltN x (nth l k) = true) : k = atN x l := by
  have ha := atN_le x l
  rcases Nat.lt_trichotomy k (atN x l) with h | h | h
  · have := atN_before h
    rw [h2 (by omega)] at this; cases this
  · exact h
  · have := h1 _ h
    rw [atN_at (by omega)] at this; cases this
def putN (x : Int × Int) (l : List (Int × Int)) : List (Int × Int) := l.take (atN x l) ++ ([x] ++ l.drop (atN x l))
theorem putN_len (x : Int × Int) (l : List (Int × Int)) : (putN x l).length = l.length + 1 := by
  have := atN_le x l
  unfold putN
  rw [List.length_append, List.length_append, List.length_take, List.length_drop, List.length_singleton]
  omega
theorem putN_perm (x : Int × Int) (l : List (Int × Int)) : (putN x l).Perm (l ++ [x]) := by
  unfold putN
  have h : (l.take (atN x l) ++ ([x] ++ l.drop (atN x l))).Perm (l.take (atN x l) ++ (l.drop (atN x l) ++ [x])) := List.Perm.append_left _ List.perm_append_comm
  refine h.trans ?_
  rw [← List.append_assoc, List.take_append_drop]
theorem putN_rises {x : Int × Int} {l : List (Int × Int)} (h : Rises ltN l) (hx : x ∉ l) : Rises ltN (putN x l) := by
  unfold putN
  have hs : Rises ltN (l.take (atN x l) ++ l.drop (atN x l)) := by rw [List.take_append_drop]; exact h
  rw [Rises, List.pairwise_append] at hs
  obtain ⟨h1, h2, h3⟩ := hs
  have hdrop : ∀ y ∈ l.drop (atN x l), ltN x y = true := fun y hy => by
    obtain ⟨i, hi, rfl⟩ := List.getElem_of_mem hy
    rw [List.length_drop] at hi
    have h0 := atN_at (x := x) (l := l) (by omega)
    rw [List.getElem_drop]
    by_cases e : i = 0
    · subst e; rw [nth_eq (by omega)] at h0; simpa using h0
    · have hp := List.pairwise_iff_getElem.1 h (atN x l) (atN x l + i) (by omega) (by omega) (by omega)
      rw [nth_eq (by omega)] at h0
      exact stoN.trans _ _ _ h0 hp
  have htake : ∀ y ∈ l.take (atN x l), ltN y x = true := fun y hy => by
    obtain ⟨i, hi, rfl⟩ := List.getElem_of_mem hy
    rw [List.length_take] at hi
    have h0 := atN_before (x := x) (l := l) (i := i) (by omega)
    rw [nth_eq (by omega)] at h0
    rw [List.getElem_take]
    cases hc : ltN l[i] x with
    | true => rfl
    | false =>
      have := stoN.tri _ _ hc h0
      exact absurd (this ▸ List.getElem_mem _) hx
  rw [Rises, List.pairwise_append]
  refine ⟨h1, ?_, fun a ha b hb => ?_⟩
  · rw [List.singleton_append, List.pairwise_cons]
    exact ⟨hdrop, h2⟩
  · rcases List.mem_append.1 hb with hb | hb
    · rw [List.mem_singleton] at hb; subst hb; exact htake a ha
    · exact h3 a ha b hb
/-- all are put, one by one -/
def sortN (l : List (Int × Int)) : List (Int × Int) := l.foldl (fun acc x => putN x acc) []
theorem sortN_snoc (l : List (Int × Int)) (x : Int × Int) : sortN (l ++ [x]) = putN x (sortN l) := by simp [sortN]
theorem snoc_indN {α : Type} {p : List α → Prop} (nil : p []) (snoc : ∀ l x, p l → p (l ++ [x])) (l : List α) : p l := by
  have h : ∀ m : List α, p m.reverse := fun m => by
    induction m with
    | nil => exact nil
    | cons a m ih => rw [List.reverse_cons]; exact snoc _ _ ih
  have := h l.reverse
  rwa [List.reverse_reverse] at this
theorem sortN_perm : ∀ l, (sortN l).Perm l := by
  refine snoc_indN (List.Perm.refl _) fun l x ih => ?_
  rw [sortN_snoc]
  exact (putN_perm _ _).trans (ih.append_right _)
theorem sortN_len (l : List (Int × Int)) : (sortN l).length = l.length := (sortN_perm l).length_eq
theorem sortN_rises : ∀ l : List (Int × Int), l.Nodup → Rises ltN (sortN l) := by
  refine snoc_indN (fun _ => List.Pairwise.nil) fun l x ih h => ?_
  rw [sortN_snoc]
  rw [List.nodup_append] at h
  refine putN_rises (ih h.1) fun hx => ?_
  exact h.2.2 x ((sortN_perm l).mem_iff.1 hx) x (by simp) rfl
/-- what rises, and is the same, is this -/
theorem sortN_uniq {l out : List (Int × Int)} (hn : l.Nodup) (h1 : Rises ltN out) (hp : out.Perm l) : out = sortN l :=
  rises_uniq stoN _ _ h1 (sortN_rises l hn) fun x => by rw [hp.mem_iff, (sortN_perm l).mem_iff]
end Go.Proofs.YtkekibnhmfmhmaaGreat
/- The document's order of hits (chapter 9, reference): Ahead. -/
namespace Go.Proofs.YtkekibnhmfmhmaaGreat
open Go Go.RowKit
set_option maxRecDepth 100000 in
set_option maxHeartbeats 4000000 in
theorem Ahead09 (a b : Int × Int) (w : World) : Calls Tryz.prog 43 #[.agg #[.int .i64 a.1, .int .i64 a.2], .agg #[.int .i64 b.1, .int .i64 b.2]] w fun e w' => e = .returned (.bool (ltN a b)) ∧ Ext w w' := by
  have S0 := Lib.hid (((Sep.start w).al #[.int .i64 a.1, .int .i64 a.2] 61 w.heap.size rfl).al #[.int .i64 b.1, .int .i64 b.2] 61 (w.heap.size + 1) (by simp))
  obtain ⟨a1, a2⟩ := a
  obtain ⟨b1, b2⟩ := b
  unfold ltN
  simp only at *
  by_cases h1 : a2 < b2
  · have e1 : decide (a2 < b2) = true := by simpa using h1
    rw [e1, Bool.true_or]
    clear h1
    go_enter Tryz.func43, Tryz.ntmps43
    go_wp2
    go_ret
    exact ⟨rfl, S0.out.ext⟩
  · have e1 : decide (a2 < b2) = false := by simpa using h1
    rw [e1, Bool.false_or]
    by_cases h2 : a2 = b2
    · have e2 : (a2 == b2) = true := by simpa using h2
      rw [decide_eq_true h2, Bool.true_and]
      clear h1 h2
      go_enter Tryz.func43, Tryz.ntmps43
      go_wp2
      go_ret
      exact ⟨rfl, S0.out.ext⟩
    · have e2 : (a2 == b2) = false := by simpa using h2
      rw [decide_eq_false h2, Bool.false_and]
      clear h1 h2
      go_enter Tryz.func43, Tryz.ntmps43
      go_wp2
      go_ret
      exact ⟨rfl, S0.out.ext⟩
theorem rd_takeE {w : World} {q : Option Addr} {n d : Nat} {L : List (Int × Int)} (h : Rd w 2 q n (encE L)) (hd : d ≤ n) : Rd w 2 q d (encE (L.take d)) := by
  have := h.take (k := d) hd
  rwa [encE_take] at this
theorem rd_cutE {w : World} {q : Option Addr} {n d c : Nat} {L : List (Int × Int)} (h : Rd w 2 q n (encE L)) (hd : d ≤ n) (hc : n ≤ c) : Rd w 2 (cutp q c d 2) (n - d) (encE (L.drop d)) := by
  have hl := h.nE
  have := h.cut (l := d) (h := n) (c := c) hd (Nat.le_refl _) hc
  rw [encE_drop, encE_take, List.take_of_length_le (by rw [List.length_drop]; omega)] at this
  exact this
end Go.Proofs.YtkekibnhmfmhmaaGreat
/- The program's heap of places (chapter 11): Swap. -/
namespace Go.Proofs.YtkekibnhmfmhmaaGreat
open Go Go.RowKit
theorem pc_set {Γ : List Pc} {j : Nat} {p q : Pc} (h : Γ[j]? = some p) : (Γ.set j q)[j]? = some q := by
  have := (List.getElem?_eq_some_iff.1 h).1
  rw [List.getElem?_set, if_pos rfl, if_pos this]
theorem encE_set2 {X : List (Int × Int)} {i : Nat} (x : Int × Int) (h : i < X.length) : encE (X.set i x) = ((encE X).set (i * 2) (.int .i64 x.1)).set (i * 2 + 1) (.int .i64 x.2) := by
  rw [← encE_set X i x h]
  have hl := encE_len X
  have e : encE X = (encE X).take (i * 2) ++ (encE X).drop (i * 2) := (List.take_append_drop _ _).symm
  apply List.ext_getElem?
  intro m
  rw [List.getElem?_set, List.getElem?_set]
  simp only [List.length_set, List.getElem?_append, List.length_append, List.length_take, List.length_cons, List.length_nil, List.getElem?_take, List.getElem?_drop]
  by_cases h1 : m < i * 2
  · rw [if_pos (by omega), if_pos (by omega), if_pos h1, if_neg (by omega), if_neg (by omega)]
  · by_cases h2 : m = i * 2
    · subst h2
      rw [if_pos (by omega), if_neg (by omega), if_neg (by omega), if_pos rfl, if_pos (by omega), show i * 2 - min (i * 2) (encE X).length = 0 by omega]; rfl
    · by_cases h3 : m = i * 2 + 1
      · subst h3
        rw [if_pos (by omega), if_neg (by omega), if_pos rfl, if_pos (by omega), show i * 2 + 1 - min (i * 2) (encE X).length = 1 by omega]; rfl
      · rw [if_neg (by omega), if_neg (by omega), if_neg (by omega)]
        congr 1; omega
theorem set_again (l : List Value) (m : Nat) (a b : Value) : (((l.set m a).set (m + 1) b).set m a).set (m + 1) b = (l.set m a).set (m + 1) b := by
  rw [List.set_comm b a (by omega : m + 1 ≠ m), List.set_set, List.set_set]
theorem encE_swap {X : List (Int × Int)} {i k : Nat} (hi : i < X.length) (hk : k < X.length) (_ : i ≠ k) : ((((encE X).set (i * 2) (.int .i64 (nth X k).1)).set (i * 2 + 1) (.int .i64 (nth X k).2)).set (k * 2) (.int .i64 (nth X i).1)).set (k * 2 + 1) (.int .i64 (nth X i).2) = encE (swapL X i k) := by
  unfold swapL
  rw [encE_set2 _ (by simpa using hk), encE_set2 _ hi]
end Go.Proofs.YtkekibnhmfmhmaaGreat
/- Calls through heap.Interface on the program's places: which method, at which value. -/
namespace Go.Proofs.YtkekibnhmfmhmaaGreat
open Go Go.RowKit
theorem wnc (s : String) (a : Addr) (xt : TypeId) (W : World) : (Builtin.ssaWrapNilChk_ #[xt] xt #[.pointer (some a), strVal "", strVal s]).run Tryz.prog W = .ok (.pointer (some a)) W := by kernel_rfl
end Go.Proofs.YtkekibnhmfmhmaaGreat
/- The library's heap (container/heap) on the program's places: up, down, Push, Pop. -/
namespace Go.Proofs.YtkekibnhmfmhmaaGreat
open Go Go.RowKit
attribute [local go_sem] Oper.semAt_some
theorem set_same {Γ : List Pc} {j : Nat} {p : Pc} (h : Γ[j]? = some p) : Γ.set j p = Γ := by
  obtain ⟨h1, h2⟩ := List.getElem?_eq_some_iff.1 h
  rw [← h2, List.set_getElem_self]
theorem swapL_comm {α : Type} [Inhabited α] (X : List α) {i k : Nat} (h : i ≠ k) : swapL X i k = swapL X k i := by
  unfold swapL
  exact List.set_comm _ _ h
end Go.Proofs.YtkekibnhmfmhmaaGreat
/- The library's heap (container/heap) on the program's places: down. -/
namespace Go.Proofs.YtkekibnhmfmhmaaGreat
open Go Go.RowKit
attribute [local go_sem] Oper.semAt_some
end Go.Proofs.YtkekibnhmfmhmaaGreat
/- The library's heap (container/heap) on the program's places: Push, Pop. -/
namespace Go.Proofs.YtkekibnhmfmhmaaGreat
open Go Go.RowKit
attribute [local go_sem] Oper.semAt_some
theorem set_two {Γ : List Pc} {j jb : Nat} (h : j ≠ jb) (a a' b : Pc) : ((Γ.set j a).set jb b).set j a' = (Γ.set j a').set jb b := by
  rw [List.set_comm _ _ h, List.set_set, List.set_comm _ _ (fun e => h e.symm)]
theorem heap_snoc {n : Nat} {X : List (Int × Int)} {x : Int × Int} (hn : n = X.length) (h : HeapN ltW n X) : UpH ltW (n + 1) n (X ++ [x]) := by
  refine up_start fun i h0 h1 => ?_
  rw [nth_append_left _ _ _ (by omega), nth_append_left _ _ _ (by omega)]
  exact h i h0 h1
end Go.Proofs.YtkekibnhmfmhmaaGreat
/- The first hits (chapter 10), in plain Lean: of so many the ones ahead. No program in sight. -/
namespace Go.Proofs.YtkekibnhmfmhmaaGreat
open Go Go.RowKit
/-- in their order; one may be there twice -/
def SortsN (l : List (Int × Int)) : Prop := l.Pairwise fun a b => ltN b a = false
theorem sortsN_uniq {l m : List (Int × Int)} (h1 : SortsN l) (h2 : SortsN m) (hp : l.Perm m) : l = m :=
  List.Perm.eq_of_pairwise (le := fun a b => ltN b a = false) (fun a b _ _ h k => stoN.tri a b k h) h1 h2 hp
theorem putN_cons (x y : Int × Int) (l : List (Int × Int)) : putN x (y :: l) = if ltN x y = true then x :: y :: l else y :: putN x l := by
  unfold putN
  rw [atN]
  by_cases h : ltN x y = true
  · rw [if_pos h, if_pos h]; rfl
  · rw [if_neg h, if_neg h]; rfl
theorem putN_nil (x : Int × Int) : putN x [] = [x] := rfl
theorem putN_mem {x y : Int × Int} {l : List (Int × Int)} : y ∈ putN x l ↔ y = x ∨ y ∈ l := by
  rw [(putN_perm x l).mem_iff, List.mem_append, List.mem_singleton]
  exact Or.comm
theorem putN_sorts (x : Int × Int) : ∀ {l : List (Int × Int)}, SortsN l → SortsN (putN x l)
  | [], _ => by rw [putN_nil]; exact List.pairwise_singleton _ _
  | y :: l, h => by
    rw [putN_cons]
    have h' := List.pairwise_cons.1 h
    by_cases e : ltN x y = true
    · rw [if_pos e]
      refine List.pairwise_cons.2 ⟨fun z hz => ?_, h⟩
      rcases List.mem_cons.1 hz with rfl | hz
      · exact stoN.asymm e
      · exact stoN.le_trans (stoN.asymm e) (h'.1 z hz)
    · rw [if_neg e]
      refine List.pairwise_cons.2 ⟨fun z hz => ?_, putN_sorts x h'.2⟩
      rcases putN_mem.1 hz with rfl | hz
      · simpa using e
      · exact h'.1 z hz
theorem sortN_sorts : ∀ l, SortsN (sortN l) := by
  refine snoc_indN List.Pairwise.nil fun l x ih => ?_
  rw [sortN_snoc]
  exact putN_sorts x ih
theorem putN_take (x : Int × Int) : ∀ (S : List (Int × Int)) (k : Nat), (putN x (S.take k)).take k = (putN x S).take k
  | [], k => by simp
  | y :: l, 0 => by simp
  | y :: l, k + 1 => by
    rw [List.take_succ_cons, putN_cons, putN_cons]
    by_cases e : ltN x y = true
    · rw [if_pos e, if_pos e, List.take_succ_cons, List.take_succ_cons]
      cases k with
      | zero => rfl
      | succ k => rw [List.take_succ_cons, List.take_succ_cons, List.take_take, Nat.min_eq_left (Nat.le_succ k)]
    · rw [if_neg e, if_neg e, List.take_succ_cons, List.take_succ_cons, putN_take x l k]
/-- there is room -/
theorem first_room {p X X' : List (Int × Int)} {x : Int × Int} {k : Nat} (hX : X.Perm ((sortN p).take k)) (hp : X'.Perm (X ++ [x])) (hk : X'.length ≤ k) : X'.Perm ((sortN (p ++ [x])).take k) := by
  have h1 : X.length < k := by have := hp.length_eq; rw [List.length_append, List.length_singleton] at this; omega
  have h2 := hX.length_eq
  rw [List.length_take] at h2
  rw [List.take_of_length_le (by omega)] at hX
  rw [sortN_snoc, List.take_of_length_le (by rw [putN_len]; omega)]
  exact hp.trans ((hX.append_right _).trans (putN_perm _ _).symm)
/-- one is too many: the last is taken off -/
theorem first_full {p X X' R : List (Int × Int)} {x m : Int × Int} {k : Nat} (hX : X.Perm ((sortN p).take k)) (hp : X'.Perm (X ++ [x])) (hk : k < X'.length) (hm : ∀ b ∈ X', ltN m b = false) (hr : (m :: R).Perm X') : R.Perm ((sortN (p ++ [x])).take k) := by
  have h1 : k ≤ X.length := by have := hp.length_eq; rw [List.length_append, List.length_singleton] at this; omega
  have h2 := hX.length_eq
  rw [List.length_take] at h2
  have hY : (putN x ((sortN p).take k)).Perm X' := (putN_perm _ _).trans ((hX.symm.append_right _).trans hp.symm)
  have hS : SortsN (putN x ((sortN p).take k)) := putN_sorts x ((sortN_sorts p).sublist (List.take_sublist _ _))
  have hYl : (putN x ((sortN p).take k)).length = k + 1 := by rw [putN_len, List.length_take]; omega
  rw [sortN_snoc, ← putN_take]
  generalize putN x ((sortN p).take k) = Y at *
  obtain ⟨z, hz⟩ : ∃ z, Y = Y.take k ++ [z] := by
    refine ⟨nth Y k, ?_⟩
    have := take_succ_nth Y k (by omega)
    rwa [List.take_of_length_le (by omega)] at this
  have hzl : ∀ y ∈ Y, ltN z y = false := fun y hy => by
    rw [hz] at hy hS
    rw [SortsN, List.pairwise_append] at hS
    rcases List.mem_append.1 hy with hy | hy
    · exact hS.2.2 y hy z (by simp)
    · rw [List.mem_singleton] at hy; subst hy; exact stoN.irrefl _
  have hzY : z ∈ Y := by rw [hz]; simp
  have hmz : m = z := stoN.tri _ _ (hm z (hY.mem_iff.1 hzY)) (hzl m (hY.mem_iff.2 (hr.mem_iff.1 (List.mem_cons_self ..))))
  subst hmz
  have h3 : (m :: R).Perm (m :: Y.take k) := (hr.trans hY.symm).trans (by conv => lhs; rw [hz]
                                                                          exact List.perm_append_singleton _ _)
  exact h3.cons_inv
/-- the first k -/
def firstN (l : List (Int × Int)) (k : Int) : List (Int × Int) := if k < 1 then [] else (sortN l).take k.toNat
theorem firstN_sorts (l : List (Int × Int)) (k : Int) : SortsN (firstN l k) := by
  unfold firstN
  split
  · exact List.Pairwise.nil
  · exact (sortN_sorts l).sublist (List.take_sublist _ _)
theorem firstN_len (l : List (Int × Int)) (k : Int) : (firstN l k).length ≤ l.length ∧ ((firstN l k).length : Int) ≤ max k 0 := by
  unfold firstN
  split
  · simp; omega
  · rw [List.length_take, sortN_len]; omega
theorem firstN_mem {l : List (Int × Int)} {k : Int} {x : Int × Int} (h : x ∈ firstN l k) : x ∈ l := by
  unfold firstN at h
  split at h
  · cases h
  · exact (sortN_perm l).mem_iff.1 (List.mem_of_mem_take h)
/-- what is sorted, and as much -/
theorem first_uniq {l Y : List (Int × Int)} {k : Nat} (h1 : SortsN Y) (h2 : Y.Perm ((sortN l).take k)) : Y = (sortN l).take k :=
  sortsN_uniq h1 ((sortN_sorts l).sublist (List.take_sublist _ _)) h2
end Go.Proofs.YtkekibnhmfmhmaaGreat
/- The program's heap of hits (chapter 10): the last first; its methods. -/
namespace Go.Proofs.YtkekibnhmfmhmaaGreat
open Go Go.RowKit
/-- the one that comes ahead of none first -/
def ltR (a b : Int × Int) : Bool := ltN b a
theorem stoR : STO ltR where
  irrefl a := stoN.irrefl a
  trans a b c h k := stoN.trans c b a k h
  tri a b h k := (stoN.tri b a h k).symm
/-- how a hit stands to another one -/
def cmpN (a b : Int × Int) : Int := if a.2 = b.2 then (if a.1 = b.1 then 0 else if a.1 < b.1 then -1 else 1) else if a.2 < b.2 then -1 else 1
theorem cmpN_neg (a b : Int × Int) : decide (cmpN a b < 0) = ltN a b := by
  rw [Bool.eq_iff_iff, ltN_iff, decide_eq_true_eq]
  unfold cmpN
  by_cases h1 : a.2 = b.2
  · rw [if_pos h1]
    by_cases h2 : a.1 = b.1
    · rw [if_pos h2]; omega
    · rw [if_neg h2]
      by_cases h3 : a.1 < b.1
      · rw [if_pos h3]; omega
      · rw [if_neg h3]; omega
  · rw [if_neg h1]
    by_cases h3 : a.2 < b.2
    · rw [if_pos h3]; omega
    · rw [if_neg h3]; omega
theorem bOrder (b : Bool) (w : World) : Calls Tryz.prog 164 #[.bool b] w fun e w' => e = .returned (.int .i64 (if b = true then -1 else 1)) ∧ w = w' := by
  cases b <;> (go_enter Tryz.func164, Tryz.ntmps164; go_wp2; go_ret; exact ⟨rfl, rfl⟩)
set_option maxRecDepth 100000 in
set_option maxHeartbeats 2000000 in
/-- how hits compare: in whatever world: blocks are laid -/
theorem bTo (x y : Int × Int) (w : World) : Calls Tryz.prog 145 #[.agg #[.int .i64 x.1, .int .i64 x.2], .agg #[.int .i64 y.1, .int .i64 y.2]] w fun e w' => e = .returned (.int .i64 (cmpN x y)) ∧ w' = (w.alloc (.cells #[.int .i64 x.1, .int .i64 x.2] 203)).alloc (.cells #[.int .i64 y.1, .int .i64 y.2] 203) := by
  obtain ⟨x1, x2⟩ := x
  obtain ⟨y1, y2⟩ := y
  unfold cmpN
  simp only
  by_cases h1 : x2 = y2
  · subst h1
    rw [if_pos rfl]
    by_cases h2 : x1 = y1
    · subst h2
      rw [if_pos rfl]
      go_enter Tryz.func145, Tryz.ntmps145
      go_wp2
      go_ret
      exact ⟨rfl, rfl⟩
    · have e2 : (x1 != y1) = true := by simpa using h2
      rw [if_neg h2]
      by_cases h3 : x1 < y1
      · rw [if_pos h3]
        have HB := Lib.hid (fun W => bOrder true W)
        clear h2
        go_enter Tryz.func145, Tryz.ntmps145
        go_wp2_with (go_at_call 164; go_must (refine (HB.out _).mono ?_; rintro e w1 ⟨rfl, rfl⟩))
        go_ret
        exact ⟨rfl, rfl⟩
      · rw [if_neg h3]
        have e3 : decide (x1 < y1) = false := by simpa using h3
        have HB := Lib.hid (fun W => bOrder false W)
        clear h2 h3
        go_enter Tryz.func145, Tryz.ntmps145
        go_wp2_with (go_at_call 164; go_must (refine (HB.out _).mono ?_; rintro e w1 ⟨rfl, rfl⟩))
        go_ret
        exact ⟨rfl, rfl⟩
  · have e1 : (x2 != y2) = true := by simpa using h1
    rw [if_neg h1]
    by_cases h3 : x2 < y2
    · rw [if_pos h3]
      have HB := Lib.hid (fun W => bOrder true W)
      clear h1
      go_enter Tryz.func145, Tryz.ntmps145
      go_wp2_with (go_at_call 164; go_must (refine (HB.out _).mono ?_; rintro e w1 ⟨rfl, rfl⟩))
      go_ret
      exact ⟨rfl, rfl⟩
    · rw [if_neg h3]
      have e3 : decide (x2 < y2) = false := by simpa using h3
      have HB := Lib.hid (fun W => bOrder false W)
      clear h1 h3
      go_enter Tryz.func145, Tryz.ntmps145
      go_wp2_with (go_at_call 164; go_must (refine (HB.out _).mono ?_; rintro e w1 ⟨rfl, rfl⟩))
      go_ret
      exact ⟨rfl, rfl⟩
theorem bToE (x y : Int × Int) (w : World) : Calls Tryz.prog 145 #[.agg #[.int .i64 x.1, .int .i64 x.2], .agg #[.int .i64 y.1, .int .i64 y.2]] w fun e w' => e = .returned (.int .i64 (cmpN x y)) ∧ Ext w w' :=
  (bTo x y w).mono fun e w' ⟨h1, h2⟩ => ⟨h1, by rw [h2]; exact Ext.alloc (Ext.alloc (Below.refl _ _) _) _⟩
theorem bLen (gb : Nat) (q : Option Addr) (n c : Nat) (m : Int) (w : World) (hB : Blk w gb 173 #[.slice q n c, .int .i64 m]) (hn : n ≤ 9223372036854775807) : Calls Tryz.prog 162 #[.pointer (some ⟨gb, 0, none⟩)] w fun e w' => e = .returned (.int .i64 n) ∧ w' = w := by
  have b0 : w.cell? ⟨gb, 0, none⟩ = some (.slice q n c) := hB.cell 0
  have bz := hB.lt
  have _u := hn
  clear hB _u
  go_enter Tryz.func162, Tryz.ntmps162
  go_wp2
  go_ret
  exact ⟨rfl, rfl⟩
set_option maxRecDepth 100000 in
set_option maxHeartbeats 4000000 in
theorem bLess (gb : Nat) (q : Option Addr) (n c : Nat) (m : Int) (X : List (Int × Int)) (i k : Nat) (w : World) (hB : Blk w gb 173 #[.slice q n c, .int .i64 m]) (hl : Rd w 2 q n (encE X)) (hi : i < n) (hk : k < n) :
    Calls Tryz.prog 247 #[.pointer (some ⟨gb, 0, none⟩), .int .i64 i, .int .i64 k] w fun e w' => e = .returned (.bool (ltR (nth X i) (nth X k))) ∧ Ext w w' := by
  have b0 : w.cell? ⟨gb, 0, none⟩ = some (.slice q n c) := hB.cell 0
  have bz := hB.lt
  have p1 := hl.ptr
  have n2 := hl.small
  have g1 := hl.cE2 hi
  have g2 := hl.cE2 hk
  have g3 := hl.cE hi
  have g4 := hl.cE hk
  have d1 : (0:Int) ≤ i := by omega
  have d2 : (i:Int) < n := by omega
  have d3 : (0:Int) ≤ k := by omega
  have d4 : (k:Int) < n := by omega
  unfold ltR
  generalize nth X i = a at *
  generalize nth X k = b at *
  have HT := Lib.hid (fun W => bToE b a W)
  have HF := Lib.hid (cmpN_neg b a)
  clear hl hi hk hB
  rw [← HF.out]
  generalize cmpN b a = cc at *
  clear HF
  go_enter Tryz.func247, Tryz.ntmps247
  go_wp2
  have u0 := fun x : ExtOf w => x.ext.cell b0
  have u1 := fun x : ExtOf w => x.ext.cell g1
  have u2 := fun x : ExtOf w => x.ext.cell g2
  have u3 := fun x : ExtOf w => x.ext.cell g3
  have u4 := fun x : ExtOf w => x.ext.cell g4
  refine wp_region_ext (by kernel_rfl) (by kernel_rfl) ?_
  repeat (go_big_quiet_step (((go_at_call 145; exact Calls.ext_of (HT.out _)))))
  refine wpQuiet_nil ?_
  rintro w9 ⟨⟨_, hb9⟩, rfl⟩
  go_wp2
  go_ret
  exact ⟨rfl, hb9⟩
end Go.Proofs.YtkekibnhmfmhmaaGreat
/- The heap of best.pile (as Hp2). -/
namespace Go.Proofs.YtkekibnhmfmhmaaGreat
open Go Go.RowKit
set_option maxRecDepth 100000 in
set_option maxHeartbeats 4000000 in
theorem bSwapNe (gb g n c : Nat) (X : List (Int × Int)) (i k : Nat) (m : Int) (w w0 : World) (Γ : List Pc) (jb j : Nat) (S : Sep w0 w Γ) (hb : Γ[jb]? = some (.blk gb 173 #[.slice (some ⟨g, 0, none⟩) n c, .int .i64 m])) (hne : jb ≠ j) (hj : Γ[j]? = some (.own 203 2 (some ⟨g, 0, none⟩) n c (encE X))) (hi : i < n) (hk : k < n) (hik : i ≠ k) (hn : n ≤ 1000000) :
    Calls Tryz.prog 250 #[.pointer (some ⟨gb, 0, none⟩), .int .i64 i, .int .i64 k] w fun e w' => e = .returned (.tuple #[]) ∧ Sep w0 w' (Γ.set j (.own 203 2 (some ⟨g, 0, none⟩) n c (encE (swapL X i k)))) := by
  have ho := S.own j hj
  have b0 : w.cell? ⟨gb, 0, none⟩ = some (.slice (some ⟨g, 0, none⟩) n c) := (S.blk jb hb).cell 0
  have bz := (S.blk jb hb).lt
  have hgb : g ≠ gb := by
    exact fun e => S.apart_at hb hj hne (k := gb) rfl (by subst e; rfl)
  have hl := S.rd j hj (by omega)
  have g1 := hl.cE2 hi
  have g2 := hl.cE2 hk
  have g3 := hl.cE hi
  have g4 := hl.cE hk
  rw [adr_some, Nat.zero_add] at g1 g2 g3 g4
  have k1 : w.frozen? ⟨g, i * 2, none⟩ = false := by have := own_frozen ho (by omega) (i * 2); rwa [adr_some, Nat.zero_add] at this
  have k2 : w.frozen? ⟨g, i * 2 + 1, none⟩ = false := by have := own_frozen ho (by omega) (i * 2 + 1); rwa [adr_some, Nat.zero_add] at this
  have k3 : w.frozen? ⟨g, k * 2, none⟩ = false := by have := own_frozen ho (by omega) (k * 2); rwa [adr_some, Nat.zero_add] at this
  have k4 : w.frozen? ⟨g, k * 2 + 1, none⟩ = false := by have := own_frozen ho (by omega) (k * 2 + 1); rwa [adr_some, Nat.zero_add] at this
  have z1 : g < w.heap.size := (S.blt j hj (by omega)).2
  have d1 : (0:Int) ≤ i := by omega
  have d2 : (i:Int) < n := by omega
  have d3 : (0:Int) ≤ k := by omega
  have d4 : (k:Int) < n := by omega
  have x1 : i * 2 ≠ k * 2 := by omega
  have x2 : i * 2 + 1 ≠ k * 2 := by omega
  have x3 : i * 2 ≠ k * 2 + 1 := by omega
  have x4 : i * 2 + 1 ≠ k * 2 + 1 := by omega
  have hnX := hl.nE
  have HX := Lib.hid (encE_swap (X := X) (i := i) (k := k) (by rw [← hnX]; exact hi) (by rw [← hnX]; exact hk) hik)
  generalize nth X i = a at *
  generalize nth X k = b at *
  clear hl ho
  have SH := Lib.hid S; clear S
  have mixed : (Tryz.prog).follows Departure.mixedOrders = true := by kernel_rfl
  clear hnX
  go_enter Tryz.func250, Tryz.ntmps250
  go_wp2
  go_region_o
  all_goals
    go_end0
    refine ⟨rfl, ?_⟩
    have T := ((SH.out.setRow2 j hj (i * 2) (by omega) (.int .i64 b.1) (.int .i64 b.2)).setRow2 j (pc_set hj) (k * 2) (by omega) (.int .i64 a.1) (.int .i64 a.2)).drew
    simp only [adr_some, Nat.zero_add, List.set_set] at T
    rw [← HX.out]
    exact T
set_option maxRecDepth 100000 in
set_option maxHeartbeats 4000000 in
theorem bSwapEq (gb g n c : Nat) (X : List (Int × Int)) (i : Nat) (m : Int) (w w0 : World) (Γ : List Pc) (jb j : Nat) (S : Sep w0 w Γ) (hb : Γ[jb]? = some (.blk gb 173 #[.slice (some ⟨g, 0, none⟩) n c, .int .i64 m])) (hne : jb ≠ j) (hj : Γ[j]? = some (.own 203 2 (some ⟨g, 0, none⟩) n c (encE X))) (hi : i < n) (hn : n ≤ 1000000) :
    Calls Tryz.prog 250 #[.pointer (some ⟨gb, 0, none⟩), .int .i64 i, .int .i64 i] w fun e w' => e = .returned (.tuple #[]) ∧ Sep w0 w' (Γ.set j (.own 203 2 (some ⟨g, 0, none⟩) n c (encE (swapL X i i)))) := by
  have ho := S.own j hj
  have b0 : w.cell? ⟨gb, 0, none⟩ = some (.slice (some ⟨g, 0, none⟩) n c) := (S.blk jb hb).cell 0
  have bz := (S.blk jb hb).lt
  have hgb : g ≠ gb := by
    exact fun e => S.apart_at hb hj hne (k := gb) rfl (by subst e; rfl)
  have hl := S.rd j hj (by omega)
  have g1 := hl.cE2 hi
  have g3 := hl.cE hi
  rw [adr_some, Nat.zero_add] at g1 g3
  have k1 : w.frozen? ⟨g, i * 2, none⟩ = false := by have := own_frozen ho (by omega) (i * 2); rwa [adr_some, Nat.zero_add] at this
  have k2 : w.frozen? ⟨g, i * 2 + 1, none⟩ = false := by have := own_frozen ho (by omega) (i * 2 + 1); rwa [adr_some, Nat.zero_add] at this
  have z1 : g < w.heap.size := (S.blt j hj (by omega)).2
  have d1 : (0:Int) ≤ i := by omega
  have d2 : (i:Int) < n := by omega
  have hnX := hl.nE
  have HX : Hid (encE (X.set i (nth X i)) = encE (swapL X i i)) := by unfold Hid swapL; rw [List.set_set]
  rw [encE_set2 _ (by omega)] at HX
  generalize nth X i = a at *
  clear hl ho
  have SH := Lib.hid S; clear S
  have mixed : (Tryz.prog).follows Departure.mixedOrders = true := by kernel_rfl
  clear hnX
  go_enter Tryz.func250, Tryz.ntmps250
  go_wp2
  go_region_o
  all_goals
    go_end0
    refine ⟨rfl, ?_⟩
    have T := ((SH.out.setRow2 j hj (i * 2) (by omega) (.int .i64 a.1) (.int .i64 a.2)).setRow2 j (pc_set hj) (i * 2) (by omega) (.int .i64 a.1) (.int .i64 a.2)).drew
    simp only [adr_some, Nat.zero_add, List.set_set] at T
    rw [set_again] at T
    rw [← HX.out]
    exact T
theorem bSwap (gb : Nat) (q : Option Addr) (n c : Nat) (X : List (Int × Int)) (i k : Nat) (m : Int) (w w0 : World) (Γ : List Pc) (jb j : Nat) (S : Sep w0 w Γ) (hb : Γ[jb]? = some (.blk gb 173 #[.slice q n c, .int .i64 m])) (hne : jb ≠ j) (hj : Γ[j]? = some (.own 203 2 q n c (encE X))) (hi : i < n) (hk : k < n) (hn : n ≤ 1000000) :
    Calls Tryz.prog 250 #[.pointer (some ⟨gb, 0, none⟩), .int .i64 i, .int .i64 k] w fun e w' => e = .returned (.tuple #[]) ∧ Sep w0 w' (Γ.set j (.own 203 2 q n c (encE (swapL X i k)))) := by
  obtain ⟨g, rfl, _⟩ := own_block (S.own j hj) (by omega)
  by_cases e : i = k
  · subst e
    exact bSwapEq gb g n c X i m w w0 Γ jb j S hb hne hj hi hn
  · exact bSwapNe gb g n c X i k m w w0 Γ jb j S hb hne hj hi hk e hn
end Go.Proofs.YtkekibnhmfmhmaaGreat
/- The heap of best.pile: Push, Pop. -/
namespace Go.Proofs.YtkekibnhmfmhmaaGreat
open Go Go.RowKit
attribute [local go_sem] Oper.semAt_some
/-- what is put onto the heap -/
def bplV (x : Int × Int) : Value := .iface 203 (.agg #[.int .i64 x.1, .int .i64 x.2])
theorem btaHit (a b : Int) (W : World) : (Instr.typeAssert (.iface 203 (.agg #[.int .i64 a, .int .i64 b])) 20 203 true).run Tryz.prog W = .ok (.tuple #[.agg #[.int .i64 a, .int .i64 b], .bool true]) W := by kernel_rfl
theorem infBh : ((Tryz.prog).info? 203).map (fun i => (i.zero, i.size, i.bytes)) = some (some (.agg #[.int .i64 0, .int .i64 0]), 2, 16) := by kernel_rfl
set_option maxRecDepth 100000 in
set_option maxHeartbeats 4000000 in
theorem bPush (gb : Nat) (q : Option Addr) (n c : Nat) (X : List (Int × Int)) (x : Int × Int) (m : Int) (w w0 : World) (Γ : List Pc) (jb j : Nat) (S : Sep w0 w Γ) (hb : Γ[jb]? = some (.blk gb 173 #[.slice q n c, .int .i64 m])) (hj : Γ[j]? = some (.own 203 2 q n c (encE X))) (hne : jb ≠ j) (hn : n ≤ 100000) :
    Calls Tryz.prog 249 #[.pointer (some ⟨gb, 0, none⟩), bplV x] w fun e w' => e = .returned (.tuple #[]) ∧ ∃ q' c', Sep w0 w' ((Γ.set j (.own 203 2 q' (n + 1) c' (encE (X ++ [x])))).set jb (.blk gb 173 #[.slice q' (n + 1) c', .int .i64 m])) := by
  have b0 := (S.blk jb hb).cell 0
  have bz := (S.blk jb hb).lt
  have bf := (S.blk jb hb).frozen 0
  unfold bplV
  have TA := btaHit x.1 x.2
  have SH := Lib.hid S; clear S
  obtain ⟨i0, hi0, hz0, hz1, hz2⟩ := info_parts infBh
  go_enter Tryz.func249, Tryz.ntmps249
  go_wp2
  obtain ⟨Y, hY⟩ : ∃ Y, Y = w.alloc (.cells #[.int .i64 x.1, .int .i64 x.2] 203) := ⟨_, rfl⟩
  have S1 := Lib.hid (hY ▸ SH.out.al #[.int .i64 x.1, .int .i64 x.2] 203 w.heap.size rfl : Sep w0 Y (.blk w.heap.size 203 #[.int .i64 x.1, .int .i64 x.2] :: Γ))
  rw [← hY]
  clear hY b0 bz bf
  have b0 := (S1.out.blk (jb + 1) hb).cell 0
  have bz := (S1.out.blk (jb + 1) hb).lt
  have e0 := (S1.out.blk 0 rfl).cell 0
  have e1 := (S1.out.blk 0 rfl).cell 1
  have ez := (S1.out.blk 0 rfl).lt
  have S4 := Lib.hid (S1.out.alrw #[.int .i64 x.1, .int .i64 x.2] 203 2 1 Y.heap.size rfl (by decide) rfl).drew
  obtain ⟨q', c', w7, hrun, S'⟩ := S4.out.appended (j + 2) 169 169 203 i0 _ 2 16 Tryz.underlying169 hi0 hz0 hz1 hz2 rfl (by omega) q n c (encE X) hj (some ⟨Y.heap.size, 0, none⟩) 1 1 (encE [x]) (S4.out.rdx 0 rfl) (one_encE _) (by omega) (by omega)
  have hb7 := two_set (p0 := Pc.own 203 2 (some ⟨Y.heap.size, 0, none⟩) 1 1 [.int .i64 x.1, .int .i64 x.2]) (p1 := Pc.blk w.heap.size 203 #[.int .i64 x.1, .int .i64 x.2]) (a := Pc.own 203 2 q' (n + 1) c' (encE X ++ encE [x])) (fun e => hne e.symm) hb
  have k4 := (S'.blk (jb + 2) hb7).cell 0
  have kf := (S'.blk (jb + 2) hb7).frozen 0
  have kz := (S'.blk (jb + 2) hb7).lt
  have S6 := Lib.hid S'
  have HB7 := Lib.hid hb7
  clear S' hb7 hb hj
  refine wp_region_any (by kernel_rfl) ?_
  change wpAny _ _ _ _ _ _ _ (World.drew _)
  refine wpAny_take (i := 0) (v := .pointer (some ⟨gb, 0, none⟩)) rfl (by kernel_rfl) (by kernel_rfl) (by kernel_rfl) (fun _ _ _ h => h) (Or.inl ⟨by rfl, fun W => by go_simp⟩) ?_
  refine wpAny_take (i := 1) (v := .pointer (some ⟨gb, 0, none⟩)) rfl (by kernel_rfl) (by kernel_rfl) (by kernel_rfl) (fun _ _ _ h => h) (Or.inl ⟨by rfl, fun W => by go_simp⟩) ?_
  refine wpAny_take (i := 2) (v := .pointer (some ⟨gb, 0, none⟩)) rfl (by kernel_rfl) (by kernel_rfl) (by kernel_rfl) (fun _ _ _ h => h) (Or.inl ⟨by rfl, fun W => by go_simp⟩) ?_
  refine wpAny_take (i := 3) (v := .pointer (some ⟨gb, 0, none⟩)) rfl (by kernel_rfl) (by kernel_rfl) (by kernel_rfl) (fun _ _ _ h => h) (Or.inl ⟨by rfl, fun W => by go_simp⟩) ?_
  refine wpAny_ready (rs := [4, 5]) (by kernel_rfl) (by simp) (AllReady.cons rfl (fun K hK => ?_) (AllReady.cons rfl (fun K hK => ?_) AllReady.nil))
  · go_simp
    refine hK _ _ ?_
    clear hK
    refine wpAny_ready (rs := [5]) (by kernel_rfl) (by simp) (AllReady.cons rfl (fun K hK => ?_) AllReady.nil)
    go_simp
    refine hK _ _ ?_
    clear hK
    refine wpAny_ready (rs := [6]) (by kernel_rfl) (by simp) (AllReady.cons rfl (fun K hK => ?_) AllReady.nil)
    go_simp
    refine hK _ _ ?_
    clear hK
    refine wpAny_ready (rs := [7]) (by kernel_rfl) (by simp) (AllReady.cons rfl (fun K hK => ?_) AllReady.nil)
    rw [if_pos (by rfl)]
    refine operwp_append (.tmp 16) (.tmp 18) 169 rfl rfl rfl hrun ?_
    refine hK _ _ ?_
    clear hK
    refine wpAny_ready (rs := [8]) (by kernel_rfl) (by simp) (AllReady.cons rfl (fun K hK => ?_) AllReady.nil)
    go_simp
    refine hK _ _ ?_
    clear hK
    refine wpAny_ready (rs := [9]) (by kernel_rfl) (by simp) (AllReady.cons rfl (fun K hK => ?_) AllReady.nil)
    go_simp
    refine hK _ _ ?_
    clear hK
    refine wpAny_ready (rs := [10]) (by kernel_rfl) (by simp) (AllReady.cons rfl (fun K hK => ?_) AllReady.nil)
    go_simp
    refine hK _ _ ?_
    clear hK
    refine wpAny_done (by kernel_rfl) ?_ _
    go_end0
    refine ⟨rfl, q', c', ?_⟩
    have T := S6.out.set (jb + 2) HB7.out 0 (.slice q' (n + 1) c')
    rw [encE_append]
    exact T.sub ((List.sublist_cons_self _ _).trans (List.sublist_cons_self _ _))
  · go_simp
    refine hK _ _ ?_
    clear hK
    refine wpAny_ready (rs := [4, 6]) (by kernel_rfl) (by simp) (AllReady.cons rfl (fun K hK => ?_) (AllReady.cons rfl (fun K hK => ?_) AllReady.nil))
    · go_simp
      refine hK _ _ ?_
      clear hK
      refine wpAny_ready (rs := [6]) (by kernel_rfl) (by simp) (AllReady.cons rfl (fun K hK => ?_) AllReady.nil)
      go_simp
      refine hK _ _ ?_
      clear hK
      refine wpAny_ready (rs := [7]) (by kernel_rfl) (by simp) (AllReady.cons rfl (fun K hK => ?_) AllReady.nil)
      rw [if_pos (by rfl)]
      refine operwp_append (.tmp 16) (.tmp 18) 169 rfl rfl rfl hrun ?_
      refine hK _ _ ?_
      clear hK
      refine wpAny_ready (rs := [8]) (by kernel_rfl) (by simp) (AllReady.cons rfl (fun K hK => ?_) AllReady.nil)
      go_simp
      refine hK _ _ ?_
      clear hK
      refine wpAny_ready (rs := [9]) (by kernel_rfl) (by simp) (AllReady.cons rfl (fun K hK => ?_) AllReady.nil)
      go_simp
      refine hK _ _ ?_
      clear hK
      refine wpAny_ready (rs := [10]) (by kernel_rfl) (by simp) (AllReady.cons rfl (fun K hK => ?_) AllReady.nil)
      go_simp
      refine hK _ _ ?_
      clear hK
      refine wpAny_done (by kernel_rfl) ?_ _
      go_end0
      refine ⟨rfl, q', c', ?_⟩
      have T := S6.out.set (jb + 2) HB7.out 0 (.slice q' (n + 1) c')
      rw [encE_append]
      exact T.sub ((List.sublist_cons_self _ _).trans (List.sublist_cons_self _ _))
    · go_simp
      refine hK _ _ ?_
      clear hK
      refine wpAny_ready (rs := [4]) (by kernel_rfl) (by simp) (AllReady.cons rfl (fun K hK => ?_) AllReady.nil)
      go_simp
      refine hK _ _ ?_
      clear hK
      refine wpAny_ready (rs := [7]) (by kernel_rfl) (by simp) (AllReady.cons rfl (fun K hK => ?_) AllReady.nil)
      rw [if_pos (by rfl)]
      refine operwp_append (.tmp 16) (.tmp 18) 169 rfl rfl rfl hrun ?_
      refine hK _ _ ?_
      clear hK
      refine wpAny_ready (rs := [8]) (by kernel_rfl) (by simp) (AllReady.cons rfl (fun K hK => ?_) AllReady.nil)
      go_simp
      refine hK _ _ ?_
      clear hK
      refine wpAny_ready (rs := [9]) (by kernel_rfl) (by simp) (AllReady.cons rfl (fun K hK => ?_) AllReady.nil)
      go_simp
      refine hK _ _ ?_
      clear hK
      refine wpAny_ready (rs := [10]) (by kernel_rfl) (by simp) (AllReady.cons rfl (fun K hK => ?_) AllReady.nil)
      go_simp
      refine hK _ _ ?_
      clear hK
      refine wpAny_done (by kernel_rfl) ?_ _
      go_end0
      refine ⟨rfl, q', c', ?_⟩
      have T := S6.out.set (jb + 2) HB7.out 0 (.slice q' (n + 1) c')
      rw [encE_append]
      exact T.sub ((List.sublist_cons_self _ _).trans (List.sublist_cons_self _ _))
set_option maxRecDepth 100000 in
set_option maxHeartbeats 8000000 in
theorem bPop (gb : Nat) (q : Option Addr) (n c : Nat) (X : List (Int × Int)) (m : Int) (w w0 : World) (Γ : List Pc) (jb j : Nat) (S : Sep w0 w Γ) (hb : Γ[jb]? = some (.blk gb 173 #[.slice q (n + 1) c, .int .i64 m])) (hj : Γ[j]? = some (.own 203 2 q (n + 1) c (encE X))) (hne : jb ≠ j) (hn : n ≤ 100000) :
    Calls Tryz.prog 248 #[.pointer (some ⟨gb, 0, none⟩)] w fun e w' => e = .returned (bplV (nth X n)) ∧ Sep w0 w' ((Γ.set j (.own 203 2 q n c (encE (X.take n)))).set jb (.blk gb 173 #[.slice q n c, .int .i64 m])) := by
  have b0 : w.cell? ⟨gb, 0, none⟩ = some (.slice q (n + 1) c) := (S.blk jb hb).cell 0
  have hl := S.rd j hj (by omega)
  have hcap := own_cap (S.own j hj)
  have HCP : Hid (cutp q c 0 2 = q) := by
    obtain ⟨g, rfl, _⟩ := own_block (S.own j hj) (by omega)
    unfold Hid cutp
    split
    · rfl
    · simp [Addr.add]
  have g1 := hl.cE (k := n) (by omega)
  have g2 := hl.cE2 (k := n) (by omega)
  have p1 := hl.ptr
  have hnX := hl.nE
  have d1 : (0:Int) ≤ n := by omega
  have d2 : (n:Int) < (n:Int) + 1 := by omega
  have HNX := Lib.hid hnX
  clear hnX
  obtain ⟨x, hx0⟩ : ∃ x, nth X n = x := ⟨_, rfl⟩
  rw [hx0] at g1 g2 ⊢
  have HX := Lib.hid hx0
  clear hx0
  unfold bplV
  clear hl
  have SH := Lib.hid S; clear S
  go_enter Tryz.func248, Tryz.ntmps248
  go_wp2
  refine wp_region_noPanic ?_
  refine wp_region_held_drew (S := fun w' => w'.cell? ⟨gb, 0, none⟩ = some (.slice q (n + 1) c) ∧ w'.cell? (adr q (n * 2)) = some (.int .i64 x.1) ∧ w'.cell? (adr q (n * 2 + 1)) = some (.int .i64 x.2)) (by kernel_rfl) ⟨b0, g1, g2⟩ (fun hHeld => ?_)
  have SD := Lib.hid SH.out.drew
  clear SH b0 g1 g2
  generalize w.drew = D at SD hHeld ⊢
  refine wpAnyH_take (i := 0) (v := .pointer (some ⟨gb, 0, none⟩)) rfl (by kernel_rfl) (by kernel_rfl) (by kernel_rfl) (noPanic_q _ _) (Or.inl ⟨by kernel_rfl, fun W hSw => by obtain ⟨h1, h2, h3⟩ := hSw; go_simp⟩) hHeld ?_
  refine wpAnyH_take (i := 1) (v := .pointer (some ⟨gb, 0, none⟩)) rfl (by kernel_rfl) (by kernel_rfl) (by kernel_rfl) (noPanic_q _ _) (Or.inl ⟨by kernel_rfl, fun W hSw => by obtain ⟨h1, h2, h3⟩ := hSw; go_simp⟩) hHeld ?_
  refine wpAnyH_take (i := 2) (v := .pointer (some ⟨gb, 0, none⟩)) rfl (by kernel_rfl) (by kernel_rfl) (by kernel_rfl) (noPanic_q _ _) (Or.inl ⟨by kernel_rfl, fun W hSw => by obtain ⟨h1, h2, h3⟩ := hSw; go_simp⟩) hHeld ?_
  refine wpAnyH_take (i := 3) (v := .slice q (n + 1) c) rfl (by kernel_rfl) (by kernel_rfl) (by kernel_rfl) (noPanic_q _ _) (Or.inl ⟨by kernel_rfl, fun W hSw => by obtain ⟨h1, h2, h3⟩ := hSw; go_simp⟩) hHeld ?_
  refine wpAnyH_take (i := 4) (v := .pointer (some ⟨gb, 0, none⟩)) rfl (by kernel_rfl) (by kernel_rfl) (by kernel_rfl) (noPanic_q _ _) (Or.inl ⟨by kernel_rfl, fun W hSw => by obtain ⟨h1, h2, h3⟩ := hSw; go_simp⟩) hHeld ?_
  refine wpAnyH_take (i := 5) (v := .pointer (some ⟨gb, 0, none⟩)) rfl (by kernel_rfl) (by kernel_rfl) (by kernel_rfl) (noPanic_q _ _) (Or.inl ⟨by kernel_rfl, fun W hSw => by obtain ⟨h1, h2, h3⟩ := hSw; go_simp⟩) hHeld ?_
  refine wpAnyH_take (i := 6) (v := .pointer (some ⟨gb, 0, none⟩)) rfl (by kernel_rfl) (by kernel_rfl) (by kernel_rfl) (noPanic_q _ _) (Or.inl ⟨by kernel_rfl, fun W hSw => by obtain ⟨h1, h2, h3⟩ := hSw; go_simp⟩) hHeld ?_
  refine wpAnyH_take (i := 7) (v := .slice q (n + 1) c) rfl (by kernel_rfl) (by kernel_rfl) (by kernel_rfl) (noPanic_q _ _) (Or.inl ⟨by kernel_rfl, fun W hSw => by obtain ⟨h1, h2, h3⟩ := hSw; go_simp⟩) hHeld ?_
  refine wpAnyH_take (i := 8) (v := .int .i64 ((n:Int) + 1)) rfl (by kernel_rfl) (by kernel_rfl) (by kernel_rfl) (noPanic_q _ _) (Or.inl ⟨by kernel_rfl, fun W hSw => by obtain ⟨h1, h2, h3⟩ := hSw; go_simp⟩) hHeld ?_
  have hw1 : IntKind.i64.wrap (n:Int) = (n:Int) := IntWalk.i64_in _ (by omega)
  refine wpAnyH_take (i := 9) (v := .int .i64 (n:Int)) rfl (by kernel_rfl) (by kernel_rfl) (by kernel_rfl) (noPanic_q _ _) (Or.inl ⟨by kernel_rfl, fun W hSw => by obtain ⟨h1, h2, h3⟩ := hSw; go_simp⟩) hHeld ?_
  clear hw1
  refine wpAnyH_take (i := 10) (v := .pointer (some (adr q (n * 2)))) rfl (by kernel_rfl) (by kernel_rfl) (by kernel_rfl) (noPanic_q _ _) (Or.inl ⟨by kernel_rfl, fun W hSw => by obtain ⟨h1, h2, h3⟩ := hSw; go_simp⟩) hHeld ?_
  refine wpAnyH_take (i := 11) (v := .agg #[.int .i64 x.1, .int .i64 x.2]) rfl (by kernel_rfl) (by kernel_rfl) (by kernel_rfl) (noPanic_q _ _) (Or.inl ⟨by kernel_rfl, fun W hSw => by obtain ⟨h1, h2, h3⟩ := hSw; go_simp⟩) hHeld ?_
  refine wpAnyH_ready (rs := [12]) (by kernel_rfl) (by simp) (AllReadyH.cons rfl (fun K hK => ?_) AllReadyH.nil)
  go_simp
  have SA := Lib.hid (SD.out.al #[.int .i64 0, .int .i64 0] 203 D.heap.size rfl)
  obtain ⟨h1, h2, h3⟩ := hHeld
  have hx := Ext.alloc (Below.refl D.heap.size D) (.cells #[.int .i64 0, .int .i64 0] 203)
  refine hK.out _ _ ⟨Ext.cell hx h1, Ext.cell hx h2, Ext.cell hx h3⟩ (fun hHeld => ?_)
  clear hK h1 h2 h3 hx
  have S9 := Lib.hid ((SA.out.set 0 rfl 0 (.int .i64 x.1)).set 0 rfl 1 (.int .i64 x.2))
  have k0 := (SA.out.blk 0 rfl).cell 0
  have k1 := (SA.out.blk 0 rfl).cell 1
  have kz := (SA.out.blk 0 rfl).lt
  have f0 := (SA.out.blk 0 rfl).frozen 0
  have f1 := (SA.out.blk 0 rfl).frozen 1
  clear SD
  generalize D.alloc (.cells #[.int .i64 0, .int .i64 0] 203) = E at *
  generalize D.heap.size = gx at *
  refine wpAnyH_ready (rs := [13]) (by kernel_rfl) (by simp) (AllReadyH.cons rfl (fun K hK => ?_) AllReadyH.nil)
  go_simp
  have b0 : ((E.setCell ⟨gx, 0, none⟩ (.int .i64 x.1)).setCell ⟨gx, 1, none⟩ (.int .i64 x.2)).cell? ⟨gb, 0, none⟩ = some (.slice q (n + 1) c) := (S9.out.blk (jb + 1) hb).cell 0
  have hl := S9.out.rd (j + 1) hj (by omega)
  have g1 := hl.cE (k := n) (by omega)
  have g2 := hl.cE2 (k := n) (by omega)
  rw [HX.out] at g1 g2
  refine hK.out _ _ ⟨b0, g1, g2⟩ (fun hHeld => ?_)
  clear hK b0 g1 g2 hl
  refine wpAnyH_done (by kernel_rfl) ?_ _
  refine noPanic_mk ?_
  clear hHeld k0 k1 kz f0 f1
  generalize (E.setCell ⟨gx, 0, none⟩ (.int .i64 x.1)).setCell ⟨gx, 1, none⟩ (.int .i64 x.2) = F at *
  go_wp2
  have b0 : F.cell? ⟨gb, 0, none⟩ = some (.slice q (n + 1) c) := (S9.out.blk (jb + 1) hb).cell 0
  have hw1 : IntKind.i64.wrap (n:Int) = (n:Int) := IntWalk.i64_in _ (by omega)
  have hcn : n ≤ c := by omega
  have hcn2 : ¬ c < n := by omega
  have hcp := HCP.out
  have u0 := fun x : ExtOf F => x.ext.cell b0
  refine wp_region_mix [true, true, true, true, true, true, true, true, true, true, true, true, true, true] (fun _ _ _ => True) (by kernel_rfl) (by kernel_rfl) (by kernel_rfl) (fun _ _ _ _ _ h => h) ?_
  simp only [nfM]
  repeat (go_big_quiet_step ((fail)))
  refine wpQuiet_nil ⟨trivial, fun vs G hE hkn => ?_⟩
  clear hkn
  have SG := Lib.hid (S9.out.call hE)
  clear S9 SA hcn hcn2 hcp hw1 u0 b0 hE
  have k0 := (SG.out.blk (jb + 1) hb).cell 0
  have kz := (SG.out.blk (jb + 1) hb).lt
  have f0 := (SG.out.blk (jb + 1) hb).frozen 0
  have SX := Lib.hid (SG.out.set (jb + 1) hb 0 (.slice q n c))
  have x0 : (G.setCell ⟨gb, 0, none⟩ (.slice q n c)).cell? ⟨gx, 0, none⟩ = some (.int .i64 x.1) := (SX.out.blk 0 rfl).cell 0
  have x1 : (G.setCell ⟨gb, 0, none⟩ (.slice q n c)).cell? ⟨gx, 1, none⟩ = some (.int .i64 x.2) := (SX.out.blk 0 rfl).cell 1
  have xz : gx < (G.setCell ⟨gb, 0, none⟩ (.slice q n c)).heap.size := (SX.out.blk 0 rfl).lt
  simp only [putM, List.length_cons, List.length_nil, Nat.zero_add, Nat.reduceAdd, List.drop_succ_cons, List.drop_zero]
  rename_i K0 HK0
  have HK := Lib.hid HK0
  clear HK0
  go_wp2
  clear k0 kz f0 SG
  generalize G.setCell ⟨gb, 0, none⟩ (.slice q n c) = Z at *
  refine HK.out _ _ ?_
  clear HK
  go_wp2
  go_ret
  refine ⟨rfl, ?_⟩
  have T : Sep w0 Z (Γ.set jb (.blk gb 173 #[.slice q n c, .int .i64 m])) := SX.out.sub (List.sublist_cons_self _ _)
  have hj2 : (Γ.set jb (.blk gb 173 #[.slice q n c, .int .i64 m]))[j]? = some (.own 203 2 q (n + 1) c (encE (X.take n) ++ encE (X.drop n))) := by
    rw [← encE_append, List.take_append_drop, List.getElem?_set_ne hne]; exact hj
  have hX := HNX.out
  have T2 := Sep.cut T j n hj2 (by rw [encE_len, List.length_take]; omega) (by omega)
  rw [List.set_comm _ _ hne] at T2
  exact T2
end Go.Proofs.YtkekibnhmfmhmaaGreat
/- Calls through heap.Interface on best.pile: which method, at which value. -/
namespace Go.Proofs.YtkekibnhmfmhmaaGreat
open Go Go.RowKit
theorem bmLen (gb : Nat) (W : World) (N : Nat) (hN : 0 < N) : (method N 202 (.pointer (some ⟨gb, 0, none⟩)) "Len").run Tryz.prog W = .ok (162, .pointer (some ⟨gb, 0, none⟩)) W := by
  obtain ⟨m, rfl⟩ : ∃ m, N = m + 1 := ⟨N - 1, by omega⟩
  kernel_rfl
theorem bmLess (gb : Nat) (W : World) (N : Nat) (hN : 0 < N) : (method N 202 (.pointer (some ⟨gb, 0, none⟩)) "Less").run Tryz.prog W = .ok (247, .pointer (some ⟨gb, 0, none⟩)) W := by
  obtain ⟨m, rfl⟩ : ∃ m, N = m + 1 := ⟨N - 1, by omega⟩
  kernel_rfl
theorem bmSwap (gb : Nat) (W : World) (N : Nat) (hN : 0 < N) : (method N 202 (.pointer (some ⟨gb, 0, none⟩)) "Swap").run Tryz.prog W = .ok (250, .pointer (some ⟨gb, 0, none⟩)) W := by
  obtain ⟨m, rfl⟩ : ∃ m, N = m + 1 := ⟨N - 1, by omega⟩
  kernel_rfl
theorem bmPush (gb : Nat) (W : World) (N : Nat) (hN : 0 < N) : (method N 202 (.pointer (some ⟨gb, 0, none⟩)) "Push").run Tryz.prog W = .ok (249, .pointer (some ⟨gb, 0, none⟩)) W := by
  obtain ⟨m, rfl⟩ : ∃ m, N = m + 1 := ⟨N - 1, by omega⟩
  kernel_rfl
theorem bmPop (gb : Nat) (W : World) (N : Nat) (hN : 0 < N) : (method N 202 (.pointer (some ⟨gb, 0, none⟩)) "Pop").run Tryz.prog W = .ok (248, .pointer (some ⟨gb, 0, none⟩)) W := by
  obtain ⟨m, rfl⟩ : ∃ m, N = m + 1 := ⟨N - 1, by omega⟩
  kernel_rfl
end Go.Proofs.YtkekibnhmfmhmaaGreat
/- The heap of best.pile (written by genbs.py out of Hn4). -/
namespace Go.Proofs.YtkekibnhmfmhmaaGreat
open Go Go.RowKit
attribute [local go_sem] Oper.semAt_some
def bhpV (gb : Nat) : Value := .iface 202 (.pointer (some ⟨gb, 0, none⟩))
set_option maxRecDepth 100000 in
set_option maxHeartbeats 4000000 in
theorem bUp (gb : Nat) (q : Option Addr) (n c i : Nat) (X : List (Int × Int)) (mo : Int) (w w0 : World) (Γ : List Pc) (jb j : Nat) (S : Sep w0 w Γ) (hb : Γ[jb]? = some (.blk gb 173 #[.slice q n c, .int .i64 mo])) (hj : Γ[j]? = some (.own 203 2 q n c (encE X))) (hne : jb ≠ j) (hn : n ≤ 100000) (hi : i < n) (hu : UpH ltR n i X) :
    Calls Tryz.prog 96 #[bhpV gb, .int .i64 i] w fun e w' => e = .returned (.tuple #[]) ∧ ∃ X' : List (Int × Int), X'.Perm X ∧ HeapN ltR n X' ∧ Sep w0 w' (Γ.set j (.own 203 2 q n c (encE X'))) := by
  unfold bhpV
  have hnX : n = X.length := (S.rd j hj (by omega)).nE
  have HNX := Lib.hid hnX
  clear hnX
  have SH := Lib.hid S; clear S
  have HU := Lib.hid hu; clear hu
  go_enter Tryz.func96, Tryz.ntmps96
  go_wp2
  go_loopw [1, 4] (fun v1 _ wr => ∃ (k : Nat) (Y : List (Int × Int)), k < n ∧ v1 = .int .i64 k ∧ Y.Perm X ∧ UpH ltR n k Y ∧ Sep w0 wr (Γ.set j (.own 203 2 q n c (encE Y)))) (fun v1 _ _ => (intOf v1).toNat)
  case atStart => exact ⟨i, X, hi, rfl, List.Perm.refl _, HU.out, by rw [set_same hj]; exact SH.out⟩
  case round =>
    clear SH HU
    obtain ⟨k, Y, hk, rfl, hp, hu, S⟩ := hrel
    have HP := Lib.hid hp
    have HU := Lib.hid hu
    have HYL : Hid (Y.length = n) := by unfold Hid; rw [hp.length_eq]; exact HNX.out.symm
    have hb2 := (List.getElem?_set_ne (l := Γ) (a := Pc.own 203 2 q n c (encE Y)) (i := j) (j := jb) (by omega)).trans hb
    have hj2 := pc_set (q := Pc.own 203 2 q n c (encE Y)) hj
    have HB2 := Lib.hid hb2
    have ML := fun N hN => bmLess gb wr N hN
    by_cases h0 : k = 0
    · subst h0
      have HE := Lib.hid (up_end hu (.inl rfl))
      have SH := Lib.hid S; clear S
      clear hp hu hb2 hj2
      go_wp2
      go_end0
      exact ⟨rfl, Y, HP.out, HE.out, SH.out⟩
    · obtain ⟨p, hpp⟩ : ∃ p, (k - 1) / 2 = p := ⟨_, rfl⟩
      have hpk : p < k := by omega
      have e1 : ((k:Int) - 1).tdiv 2 = (p:Int) := by
        rw [Int.tdiv_eq_ediv_of_nonneg (by omega)]; omega
      have e2 : ((p:Int) == (k:Int)) = false := by simp; omega
      have hL := bLess gb q n c mo Y k p wr (S.blk jb hb2) (S.rd j hj2 (by omega)) hk (by omega)
      cases hlt : ltR (nth Y k) (nth Y p) with
      | false =>
        rw [hlt] at hL
        have HE := Lib.hid (up_end hu (.inr (by rw [hpp]; exact hlt)))
        have HL := Lib.hid hL
        have SH := Lib.hid S; clear S
        clear hp hu hb2 hj2 hL hlt hpp h0
        go_wp2_with (go_at_call 247; go_must (refine HL.out.mono ?_; rintro e w5 ⟨rfl, h5⟩; have S5 := Lib.hid (SH.out.call h5); have MS := fun N hN => bmSwap gb w5 N hN; clear h5))
        go_end0
        exact ⟨rfl, Y, HP.out, HE.out, S5.out⟩
      | true =>
        rw [hlt] at hL
        have HE := Lib.hid (hpp ▸ up_step stoR (by rw [HYL.out]; exact Nat.le_refl _) hk (by omega) hu (by rw [hpp]; exact hlt) : UpH ltR n p (swapL Y k p))
        have HJ2 := Lib.hid hj2
        have HPM := Lib.hid (swapL_perm (X := Y) (i := k) (j := p) (by rw [HYL.out]; exact hk) (by rw [HYL.out]; omega))
        have HL := Lib.hid hL
        have SH := Lib.hid S; clear S
        clear hp hu hb2 hj2 hL hlt hpp h0
        have hkp : p ≠ k := by omega
        go_wp2_with (first
          | (go_at_call 250; go_must (refine (bSwap gb q n c Y p k mo w5 w0 _ jb j S5.out HB2.out hne HJ2.out (by omega) hk (by omega)).mono ?_; rintro e w6 ⟨rfl, T⟩; rw [List.set_set, swapL_comm Y hkp] at T; have S6 := Lib.hid T; clear T))
          | (go_at_call 247; go_must (refine HL.out.mono ?_; rintro e w5 ⟨rfl, h5⟩; have S5 := Lib.hid (SH.out.call h5); have MS := fun N hN => bmSwap gb w5 N hN; clear h5)))
        go_roundw
        case rel => exact ⟨p, swapL Y k p, by omega, rfl, HPM.out.trans HP.out, HE.out, S6.out⟩
        case measure => simp [intOf]; omega
end Go.Proofs.YtkekibnhmfmhmaaGreat
/- The heap of best.pile (written by genbs.py out of Hn5). -/
namespace Go.Proofs.YtkekibnhmfmhmaaGreat
open Go Go.RowKit
attribute [local go_sem] Oper.semAt_some
set_option maxRecDepth 100000 in
set_option maxHeartbeats 8000000 in
theorem bDown (gb : Nat) (q : Option Addr) (n m c : Nat) (X : List (Int × Int)) (mo : Int) (w w0 : World) (Γ : List Pc) (jb j : Nat) (S : Sep w0 w Γ) (hb : Γ[jb]? = some (.blk gb 173 #[.slice q m c, .int .i64 mo])) (hj : Γ[j]? = some (.own 203 2 q m c (encE X))) (hne : jb ≠ j) (hm : m ≤ 100000) (hnm : n ≤ m) (hu : DnH ltR n 0 X) :
    Calls Tryz.prog 129 #[bhpV gb, .int .i64 0, .int .i64 n] w fun e w' => ∃ bb, e = .returned (.bool bb) ∧ ∃ X' : List (Int × Int), X'.Perm X ∧ HeapN ltR n X' ∧ (∀ z, n ≤ z → z < m → nth X' z = nth X z) ∧ Sep w0 w' (Γ.set j (.own 203 2 q m c (encE X'))) := by
  unfold bhpV
  have hnX : m = X.length := (S.rd j hj (by omega)).nE
  have HNX := Lib.hid hnX
  clear hnX
  have SH := Lib.hid S; clear S
  have HU := Lib.hid hu; clear hu
  go_enter Tryz.func129, Tryz.ntmps129
  go_wp2
  go_loopw [7, 8, 9, 10] (fun v7 _ _ _ wr => ∃ (k : Nat) (Y : List (Int × Int)), k ≤ n ∧ v7 = .int .i64 k ∧ Y.Perm X ∧ DnH ltR n k Y ∧ (∀ z, n ≤ z → z < m → nth Y z = nth X z) ∧ Sep w0 wr (Γ.set j (.own 203 2 q m c (encE Y)))) (fun v7 _ _ _ _ => n - (intOf v7).toNat)
  case atStart => exact ⟨0, X, Nat.zero_le _, rfl, List.Perm.refl _, HU.out, fun _ _ _ => rfl, by rw [set_same hj]; exact SH.out⟩
  case round =>
    clear SH HU
    obtain ⟨k, Y, hk, rfl, hp, hu, ht, S⟩ := hrel
    have HP := Lib.hid hp
    have HU := Lib.hid hu
    have HT := Lib.hid ht
    have HYL : Hid (Y.length = m) := by unfold Hid; rw [hp.length_eq]; exact HNX.out.symm
    have HB2 := Lib.hid ((List.getElem?_set_ne (l := Γ) (a := Pc.own 203 2 q m c (encE Y)) (i := j) (j := jb) (by omega)).trans hb)
    have HJ2 := Lib.hid (pc_set (q := Pc.own 203 2 q m c (encE Y)) hj)
    have ML := fun N hN => bmLess gb wr N hN
    obtain ⟨a, ha⟩ : ∃ a, 2 * k + 1 = a := ⟨_, rfl⟩
    have e1 : 2 * (k:Int) + 1 = (a:Int) := by omega
    have e2 : decide ((a:Int) < 0) = false := by simp
    clear hp hu ht
    by_cases hA : n ≤ a
    · have d1 : decide ((n:Int) ≤ a) = true := by simp; omega
      have HE := Lib.hid (dn_leaf HU.out (by omega))
      have SH := Lib.hid S; clear S
      have d1n : decide (n ≤ a) = true := by simpa using hA
      clear ha
      go_wp2
      go_ret
      exact ⟨_, rfl, Y, HP.out, HE.out, HT.out, SH.out⟩
    · have d1 : decide ((n:Int) ≤ a) = false := by simp; omega
      obtain ⟨b, hb'⟩ : ∃ b, 2 * k + 2 = b := ⟨_, rfl⟩
      have e3 : (a:Int) + 1 = (b:Int) := by omega
      by_cases hB : b < n
      · have d2 : decide ((b:Int) < n) = true := by simp; omega
        have hL1 := bLess gb q m c mo Y b a wr (S.blk jb HB2.out) (S.rd j HJ2.out (by omega)) (by omega) (by omega)
        cases hl1 : ltR (nth Y b) (nth Y a) with
        | false =>
          rw [hl1] at hL1
          have HL1 := Lib.hid hL1
          obtain ⟨d, hd⟩ : ∃ d, d = a := ⟨_, rfl⟩
          have HLC := Lib.hid (least_one stoR (n := n) (j := k) (X := Y) (by omega) (.inr (by rw [ha, hb']; exact hl1)))
          rw [ha] at HLC
          have SH := Lib.hid S; clear S
          obtain rfl := hd
          clear hl1 hL1
          cases hlt : ltR (nth Y d) (nth Y k) with
          | false =>
            have HE := Lib.hid (dn_end stoR HU.out HLC.out hlt)
            have HL2 : Hid (∀ W, Ext wr W → Calls Tryz.prog 247 #[.pointer (some ⟨gb, 0, none⟩), .int .i64 d, .int .i64 k] W fun e w' => e = .returned (.bool false) ∧ Ext W w') := fun W h => hlt ▸ bLess gb q m c mo Y d k W ((SH.out.blk jb HB2.out).ext h) ((SH.out.rd j HJ2.out (by omega)).ext h) (by omega) (by omega)
            clear hlt
            go_wp2_with (first | (go_at_call 247; have _t := S5; go_must (refine (HL2.out _ X5.out).mono ?_; rintro e w6 ⟨rfl, h6⟩; have S6 := Lib.hid (S5.out.call h6); have MS := fun N hN => bmSwap gb w6 N hN; clear h6)) | (go_at_call 247; have _t := HL1; go_must (refine HL1.out.mono ?_; rintro e w5 ⟨rfl, h5⟩; have S5 := Lib.hid (SH.out.call h5); have X5 := Lib.hid h5; have ML5 := fun N hN => bmLess gb w5 N hN; clear h5)))
            go_ret
            exact ⟨_, rfl, Y, HP.out, HE.out, HT.out, S6.out⟩
          | true =>
            have HE := Lib.hid (dn_step stoR (by rw [HYL.out]; exact hnm) HU.out HLC.out hlt)
            have HL2 : Hid (∀ W, Ext wr W → Calls Tryz.prog 247 #[.pointer (some ⟨gb, 0, none⟩), .int .i64 d, .int .i64 k] W fun e w' => e = .returned (.bool true) ∧ Ext W w') := fun W h => hlt ▸ bLess gb q m c mo Y d k W ((SH.out.blk jb HB2.out).ext h) ((SH.out.rd j HJ2.out (by omega)).ext h) (by omega) (by omega)
            have HPM := Lib.hid (swapL_perm (X := Y) (i := k) (j := d) (by rw [HYL.out]; omega) (by rw [HYL.out]; omega))
            have HT2 : Hid (∀ z, n ≤ z → z < m → nth (swapL Y k d) z = nth X z) := fun z h1 h2 => by rw [swapL_nth (by rw [HYL.out]; exact h2), if_neg (by omega), if_neg (by omega)]; exact HT.out z h1 h2
            clear hlt
            go_wp2_with (first | (go_at_call 250; go_must (refine (bSwap gb q m c Y k d mo w6 w0 _ jb j S6.out HB2.out hne HJ2.out (by omega) (by omega) (by omega)).mono ?_; rintro e w7 ⟨rfl, T⟩; rw [List.set_set] at T; have S7 := Lib.hid T; clear T)) | (go_at_call 247; have _t := S5; go_must (refine (HL2.out _ X5.out).mono ?_; rintro e w6 ⟨rfl, h6⟩; have S6 := Lib.hid (S5.out.call h6); have MS := fun N hN => bmSwap gb w6 N hN; clear h6)) | (go_at_call 247; have _t := HL1; go_must (refine HL1.out.mono ?_; rintro e w5 ⟨rfl, h5⟩; have S5 := Lib.hid (SH.out.call h5); have X5 := Lib.hid h5; have ML5 := fun N hN => bmLess gb w5 N hN; clear h5)))
            go_roundw
            case rel => exact ⟨d, swapL Y k d, by omega, rfl, HPM.out.trans HP.out, HE.out, HT2.out, S7.out⟩
            case measure => simp [intOf]; omega
        | true =>
          rw [hl1] at hL1
          have HL1 := Lib.hid hL1
          have HLC := Lib.hid (least_two stoR (n := n) (j := k) (X := Y) (by omega) (by rw [ha, hb']; exact hl1))
          rw [hb'] at HLC
          obtain ⟨d, hd⟩ : ∃ d, d = b := ⟨_, rfl⟩
          have SH := Lib.hid S; clear S
          obtain rfl := hd
          clear hl1 hL1
          cases hlt : ltR (nth Y d) (nth Y k) with
          | false =>
            have HE := Lib.hid (dn_end stoR HU.out HLC.out hlt)
            have HL2 : Hid (∀ W, Ext wr W → Calls Tryz.prog 247 #[.pointer (some ⟨gb, 0, none⟩), .int .i64 d, .int .i64 k] W fun e w' => e = .returned (.bool false) ∧ Ext W w') := fun W h => hlt ▸ bLess gb q m c mo Y d k W ((SH.out.blk jb HB2.out).ext h) ((SH.out.rd j HJ2.out (by omega)).ext h) (by omega) (by omega)
            clear hlt
            go_wp2_with (first | (go_at_call 247; have _t := S5; go_must (refine (HL2.out _ X5.out).mono ?_; rintro e w6 ⟨rfl, h6⟩; have S6 := Lib.hid (S5.out.call h6); have MS := fun N hN => bmSwap gb w6 N hN; clear h6)) | (go_at_call 247; have _t := HL1; go_must (refine HL1.out.mono ?_; rintro e w5 ⟨rfl, h5⟩; have S5 := Lib.hid (SH.out.call h5); have X5 := Lib.hid h5; have ML5 := fun N hN => bmLess gb w5 N hN; clear h5)))
            go_ret
            exact ⟨_, rfl, Y, HP.out, HE.out, HT.out, S6.out⟩
          | true =>
            have HE := Lib.hid (dn_step stoR (by rw [HYL.out]; exact hnm) HU.out HLC.out hlt)
            have HL2 : Hid (∀ W, Ext wr W → Calls Tryz.prog 247 #[.pointer (some ⟨gb, 0, none⟩), .int .i64 d, .int .i64 k] W fun e w' => e = .returned (.bool true) ∧ Ext W w') := fun W h => hlt ▸ bLess gb q m c mo Y d k W ((SH.out.blk jb HB2.out).ext h) ((SH.out.rd j HJ2.out (by omega)).ext h) (by omega) (by omega)
            have HPM := Lib.hid (swapL_perm (X := Y) (i := k) (j := d) (by rw [HYL.out]; omega) (by rw [HYL.out]; omega))
            have HT2 : Hid (∀ z, n ≤ z → z < m → nth (swapL Y k d) z = nth X z) := fun z h1 h2 => by rw [swapL_nth (by rw [HYL.out]; exact h2), if_neg (by omega), if_neg (by omega)]; exact HT.out z h1 h2
            clear hlt
            go_wp2_with (first | (go_at_call 250; go_must (refine (bSwap gb q m c Y k d mo w6 w0 _ jb j S6.out HB2.out hne HJ2.out (by omega) (by omega) (by omega)).mono ?_; rintro e w7 ⟨rfl, T⟩; rw [List.set_set] at T; have S7 := Lib.hid T; clear T)) | (go_at_call 247; have _t := S5; go_must (refine (HL2.out _ X5.out).mono ?_; rintro e w6 ⟨rfl, h6⟩; have S6 := Lib.hid (S5.out.call h6); have MS := fun N hN => bmSwap gb w6 N hN; clear h6)) | (go_at_call 247; have _t := HL1; go_must (refine HL1.out.mono ?_; rintro e w5 ⟨rfl, h5⟩; have S5 := Lib.hid (SH.out.call h5); have X5 := Lib.hid h5; have ML5 := fun N hN => bmLess gb w5 N hN; clear h5)))
            go_roundw
            case rel => exact ⟨d, swapL Y k d, by omega, rfl, HPM.out.trans HP.out, HE.out, HT2.out, S7.out⟩
            case measure => simp [intOf]; omega
      · have d2 : decide ((b:Int) < n) = false := by simp; omega
        have HLC := Lib.hid (least_one stoR (n := n) (j := k) (X := Y) (by omega) (.inl (by omega)))
        rw [ha] at HLC
        obtain ⟨d, hd⟩ : ∃ d, d = a := ⟨_, rfl⟩
        have SH := Lib.hid S; clear S
        have S5 := Lib.hid SH.out
        have X5 : Hid (Ext wr wr) := Below.refl _ _
        obtain rfl := hd
        cases hlt : ltR (nth Y d) (nth Y k) with
        | false =>
          have HE := Lib.hid (dn_end stoR HU.out HLC.out hlt)
          have HL2 : Hid (∀ W, Ext wr W → Calls Tryz.prog 247 #[.pointer (some ⟨gb, 0, none⟩), .int .i64 d, .int .i64 k] W fun e w' => e = .returned (.bool false) ∧ Ext W w') := fun W h => hlt ▸ bLess gb q m c mo Y d k W ((SH.out.blk jb HB2.out).ext h) ((SH.out.rd j HJ2.out (by omega)).ext h) (by omega) (by omega)
          clear hlt
          go_wp2_with (first | (go_at_call 247; have _t := S5; go_must (refine (HL2.out _ X5.out).mono ?_; rintro e w6 ⟨rfl, h6⟩; have S6 := Lib.hid (S5.out.call h6); have MS := fun N hN => bmSwap gb w6 N hN; clear h6)) | (go_at_call 247; have _t := HL1; go_must (refine HL1.out.mono ?_; rintro e w5 ⟨rfl, h5⟩; have S5 := Lib.hid (SH.out.call h5); have X5 := Lib.hid h5; have ML5 := fun N hN => bmLess gb w5 N hN; clear h5)))
          go_ret
          exact ⟨_, rfl, Y, HP.out, HE.out, HT.out, S6.out⟩
        | true =>
          have HE := Lib.hid (dn_step stoR (by rw [HYL.out]; exact hnm) HU.out HLC.out hlt)
          have HL2 : Hid (∀ W, Ext wr W → Calls Tryz.prog 247 #[.pointer (some ⟨gb, 0, none⟩), .int .i64 d, .int .i64 k] W fun e w' => e = .returned (.bool true) ∧ Ext W w') := fun W h => hlt ▸ bLess gb q m c mo Y d k W ((SH.out.blk jb HB2.out).ext h) ((SH.out.rd j HJ2.out (by omega)).ext h) (by omega) (by omega)
          have HPM := Lib.hid (swapL_perm (X := Y) (i := k) (j := d) (by rw [HYL.out]; omega) (by rw [HYL.out]; omega))
          have HT2 : Hid (∀ z, n ≤ z → z < m → nth (swapL Y k d) z = nth X z) := fun z h1 h2 => by rw [swapL_nth (by rw [HYL.out]; exact h2), if_neg (by omega), if_neg (by omega)]; exact HT.out z h1 h2
          clear hlt
          go_wp2_with (first | (go_at_call 250; go_must (refine (bSwap gb q m c Y k d mo w6 w0 _ jb j S6.out HB2.out hne HJ2.out (by omega) (by omega) (by omega)).mono ?_; rintro e w7 ⟨rfl, T⟩; rw [List.set_set] at T; have S7 := Lib.hid T; clear T)) | (go_at_call 247; have _t := S5; go_must (refine (HL2.out _ X5.out).mono ?_; rintro e w6 ⟨rfl, h6⟩; have S6 := Lib.hid (S5.out.call h6); have MS := fun N hN => bmSwap gb w6 N hN; clear h6)) | (go_at_call 247; have _t := HL1; go_must (refine HL1.out.mono ?_; rintro e w5 ⟨rfl, h5⟩; have S5 := Lib.hid (SH.out.call h5); have X5 := Lib.hid h5; have ML5 := fun N hN => bmLess gb w5 N hN; clear h5)))
          go_roundw
          case rel => exact ⟨d, swapL Y k d, by omega, rfl, HPM.out.trans HP.out, HE.out, HT2.out, S7.out⟩
          case measure => simp [intOf]; omega
end Go.Proofs.YtkekibnhmfmhmaaGreat
/- The heap of best.pile (written by genbs.py out of Hn6). -/
namespace Go.Proofs.YtkekibnhmfmhmaaGreat
open Go Go.RowKit
attribute [local go_sem] Oper.semAt_some
theorem bheap_snoc {n : Nat} {X : List (Int × Int)} {x : Int × Int} (hn : n = X.length) (h : HeapN ltR n X) : UpH ltR (n + 1) n (X ++ [x]) := by
  refine up_start fun i h0 h1 => ?_
  rw [nth_append_left _ _ _ (by omega), nth_append_left _ _ _ (by omega)]
  exact h i h0 h1
set_option maxRecDepth 100000 in
set_option maxHeartbeats 4000000 in
theorem bHeapPush (gb : Nat) (q : Option Addr) (n c : Nat) (X : List (Int × Int)) (x : Int × Int) (mo : Int) (w w0 : World) (Γ : List Pc) (jb j : Nat) (S : Sep w0 w Γ) (hb : Γ[jb]? = some (.blk gb 173 #[.slice q n c, .int .i64 mo])) (hj : Γ[j]? = some (.own 203 2 q n c (encE X))) (hne : jb ≠ j) (hn : n ≤ 90000) (hh : HeapN ltR n X) :
    Calls Tryz.prog 68 #[bhpV gb, bplV x] w fun e w' => e = .returned (.tuple #[]) ∧ ∃ (q' : Option Addr) (c' : Nat) (X' : List (Int × Int)), X'.Perm (X ++ [x]) ∧ HeapN ltR (n + 1) X' ∧ Sep w0 w' ((Γ.set j (.own 203 2 q' (n + 1) c' (encE X'))).set jb (.blk gb 173 #[.slice q' (n + 1) c', .int .i64 mo])) := by
  have HU := Lib.hid (bheap_snoc (x := x) (S.rd j hj (by omega)).nE hh)
  have HPU := Lib.hid (bPush gb q n c X x mo w w0 Γ jb j S hb hj hne (by omega))
  have MP := fun W N hN => bmPush gb W N hN
  have HUP := Lib.hid (fun q1 c1 w1 S1 => bUp gb q1 (n + 1) c1 n (X ++ [x]) mo w1 w0 ((Γ.set j (.own 203 2 q1 (n + 1) c1 (encE (X ++ [x])))).set jb (.blk gb 173 #[.slice q1 (n + 1) c1, .int .i64 mo])) jb j S1 (pc_set (p := .blk gb 173 #[.slice q n c, .int .i64 mo]) (by rw [List.getElem?_set_ne (fun e => hne e.symm)]; exact hb)) (by rw [List.getElem?_set_ne hne]; exact pc_set hj) hne (by omega) (by omega) HU.out)
  have HB := Lib.hid (fun q1 c1 => (pc_set (p := .blk gb 173 #[.slice q n c, .int .i64 mo]) (q := .blk gb 173 #[.slice q1 (n + 1) c1, .int .i64 mo]) (by rw [List.getElem?_set_ne (fun e => hne e.symm)]; exact hb) : ((Γ.set j (.own 203 2 q1 (n + 1) c1 (encE (X ++ [x])))).set jb (.blk gb 173 #[.slice q1 (n + 1) c1, .int .i64 mo]))[jb]? = some _))
  clear S hb hj hh
  unfold bhpV bplV
  go_enter Tryz.func68, Tryz.ntmps68
  go_wp2_with (first
    | (go_at_call 96; go_must (refine (HUP.out q1 c1 w1 S1.out).mono ?_; rintro e w2 ⟨rfl, X', k1, k2, k3⟩; rw [set_two (fun e => hne e.symm)] at k3; have K1 := Lib.hid k1; have K2 := Lib.hid k2; have S2 := Lib.hid k3; clear k1 k2 k3))
    | (go_at_call 162; go_must (refine (bLen gb _ _ _ mo _ (S1.out.blk jb (HB.out q1 c1)) (by omega)).mono ?_; rintro e wl ⟨rfl, hw⟩; have hw := hw.symm; subst hw))
    | (go_at_call 249; go_must (refine HPU.out.mono ?_; rintro e w1 ⟨rfl, q1, c1, T⟩; have ML := fun N hN => bmLen gb w1 N hN; have S1 := Lib.hid T; clear T)))
  go_end0
  exact ⟨rfl, q1, c1, X', K1.out, K2.out, S2.out⟩
set_option maxRecDepth 100000 in
set_option maxHeartbeats 4000000 in
theorem bHeapPop (gb : Nat) (q : Option Addr) (n c : Nat) (X : List (Int × Int)) (mo : Int) (w w0 : World) (Γ : List Pc) (jb j : Nat) (S : Sep w0 w Γ) (hb : Γ[jb]? = some (.blk gb 173 #[.slice q (n + 1) c, .int .i64 mo])) (hj : Γ[j]? = some (.own 203 2 q (n + 1) c (encE X))) (hne : jb ≠ j) (hn : n ≤ 90000) (hh : HeapN ltR (n + 1) X) :
    Calls Tryz.prog 97 #[bhpV gb] w fun e w' => e = .returned (bplV (nth X 0)) ∧ ∃ X' : List (Int × Int), (nth X 0 :: X').Perm X ∧ HeapN ltR n X' ∧ Sep w0 w' ((Γ.set j (.own 203 2 q n c (encE X'))).set jb (.blk gb 173 #[.slice q n c, .int .i64 mo])) := by
  have hnX := (S.rd j hj (by omega)).nE
  have HNX := Lib.hid hnX
  have HB0 := Lib.hid (S.blk jb hb)
  have ML := fun N hN => bmLen gb w N hN
  have MS := fun N hN => bmSwap gb w N hN
  have MP := fun W N hN => bmPop gb W N hN
  have HSW := Lib.hid (bSwap gb q (n + 1) c X 0 n mo w w0 Γ jb j S hb hne hj (by omega) (by omega) (by omega))
  have HDN := Lib.hid (fun w1 S1 => bDown gb q n (n + 1) c (swapL X 0 n) mo w1 w0 (Γ.set j (.own 203 2 q (n + 1) c (encE (swapL X 0 n)))) jb j S1 (by rw [List.getElem?_set_ne (fun e => hne e.symm)]; exact hb) (pc_set hj) hne (by omega) (by omega) (dn_start hnX.symm hh))
  have HPO := Lib.hid (fun w2 Y S2 => bPop gb q n c Y mo w2 w0 (Γ.set j (.own 203 2 q (n + 1) c (encE Y))) jb j S2 (by rw [List.getElem?_set_ne (fun e => hne e.symm)]; exact hb) (pc_set hj) hne (by omega))
  have HN0 : Hid (nth (swapL X 0 n) n = nth X 0) := by unfold Hid; rw [swapL_nth (by omega), if_pos rfl]
  have HPM := Lib.hid (swapL_perm (X := X) (i := 0) (j := n) (by omega) (by omega))
  clear S hb hj hh hnX
  unfold bhpV
  go_enter Tryz.func97, Tryz.ntmps97
  go_wp2_with (first
    | (go_at_call 248; go_must (refine (HPO.out w2 X' S2.out).mono ?_; rintro e w3 ⟨rfl, T⟩; rw [List.set_set] at T; have S3 := Lib.hid T; clear T))
    | (go_at_call 129; go_must (refine (HDN.out w1 S1.out).mono ?_; rintro e w2 ⟨bb, rfl, X', k1, k2, k3, k4⟩; rw [List.set_set] at k4; have K1 := Lib.hid k1; have K2 := Lib.hid k2; have K3 := Lib.hid (k3 n (Nat.le_refl _) (by omega)); have S2 := Lib.hid k4; clear k1 k2 k3 k4))
    | (go_at_call 250; go_must (refine HSW.out.mono ?_; rintro e w1 ⟨rfl, T⟩; have S1 := Lib.hid T; clear T))
    | (go_at_call 162; go_must (refine (bLen gb _ _ _ mo _ (HB0.out) (by omega)).mono ?_; rintro e wl ⟨rfl, hw⟩; have hw := hw.symm; subst hw)))
  go_ret
  have e0 : nth X' n = nth X 0 := K3.out.trans HN0.out
  refine ⟨by rw [e0]; rfl, X'.take n, ?_, heap_take K2.out ?_, S3.out⟩
  · exact pop_perm HNX.out.symm (K1.out.trans HPM.out) e0
  · rw [K1.out.length_eq, HPM.out.length_eq, ← HNX.out]; omega
end Go.Proofs.YtkekibnhmfmhmaaGreat
/- The program's queue (chapter 10): last, Len, Put. -/
namespace Go.Proofs.YtkekibnhmfmhmaaGreat
open Go Go.RowKit
theorem btaPop (a b : Int) (W : World) : (Instr.typeAssert (bplV (a, b)) 20 203 true).run Tryz.prog W = .ok (.tuple #[.agg #[.int .i64 a, .int .i64 b], .bool true]) W := btaHit a b W
theorem pc_set2 {Γ : List Pc} {j jb : Nat} {a b c : Pc} (_ : jb ≠ j) (hb : Γ[jb]? = some c) : ((Γ.set j a).set jb b)[jb]? = some b := by
  rw [List.getElem?_set_self]
  rw [List.length_set]
  exact (List.getElem?_eq_some_iff.1 hb).1
theorem pc_setj {Γ : List Pc} {j jb : Nat} {a b c : Pc} (h : jb ≠ j) (hj : Γ[j]? = some c) : ((Γ.set j a).set jb b)[j]? = some a := by
  rw [List.getElem?_set_ne h, List.getElem?_set_self]
  exact (List.getElem?_eq_some_iff.1 hj).1
theorem set_set2 {Γ : List Pc} {j jb : Nat} {a b a' b' : Pc} (h : jb ≠ j) : (((Γ.set j a).set jb b).set j a').set jb b' = (Γ.set j a').set jb b' := by
  rw [List.set_comm (l := Γ.set j a) _ _ h, List.set_set, List.set_set]
set_option maxRecDepth 100000 in
set_option maxHeartbeats 4000000 in
theorem bLast (gb : Nat) (q : Option Addr) (n c : Nat) (X : List (Int × Int)) (mo : Int) (w w0 : World) (Γ : List Pc) (jb j : Nat) (S : Sep w0 w Γ) (hb : Γ[jb]? = some (.blk gb 173 #[.slice q (n + 1) c, .int .i64 mo])) (hj : Γ[j]? = some (.own 203 2 q (n + 1) c (encE X))) (hne : jb ≠ j) (hn : n ≤ 90000) (hh : HeapN ltR (n + 1) X) :
    Calls Tryz.prog 142 #[.pointer (some ⟨gb, 0, none⟩)] w fun e w' => e = .returned (.agg #[.int .i64 (nth X 0).1, .int .i64 (nth X 0).2]) ∧ ∃ X' : List (Int × Int), (nth X 0 :: X').Perm X ∧ HeapN ltR n X' ∧ Sep w0 w' ((Γ.set j (.own 203 2 q n c (encE X'))).set jb (.blk gb 173 #[.slice q n c, .int .i64 mo])) := by
  have S0 := Lib.hid (S.al #[.int .i64 0, .int .i64 0] 61 w.heap.size rfl)
  have HP := Lib.hid (bHeapPop gb q n c X mo _ w0 _ (jb + 1) (j + 1) S0.out hb hj (by omega) hn hh)
  have TA := btaPop (nth X 0).1 (nth X 0).2
  have HX : Hid (bplV (nth X 0) = bplV ((nth X 0).1, (nth X 0).2)) := rfl
  clear S hb hj hh
  go_enter Tryz.func142, Tryz.ntmps142
  go_wp2_with (go_at_call 97; go_must (refine HP.out.mono ?_; rintro e w1 ⟨rfl, X', k1, k2, k3⟩; rw [HX.out]; have K1 := Lib.hid k1; have K2 := Lib.hid k2; have S1 := Lib.hid k3; have a0 := (k3.blk 0 rfl).cell 0; have a1 := (k3.blk 0 rfl).cell 1; have az := (k3.blk 0 rfl).lt; have f0 := (k3.blk 0 rfl).frozen 0; have f1 := (k3.blk 0 rfl).frozen 1; clear k1 k2 k3))
  have S9 := Lib.hid (((S1.out.set 0 rfl 0 (.int .i64 (nth X 0).1)).set 0 rfl 1 (.int .i64 (nth X 0).2)).junk (.cells #[.int .i64 (nth X 0).1, .int .i64 (nth X 0).2] 203))
  have x0 := (S9.out.blk 0 rfl).cell 0
  have x1 := (S9.out.blk 0 rfl).cell 1
  refine bodyPost_ret (v := .agg #[.int .i64 (nth X 0).1, .int .i64 (nth X 0).2]) (by simp [results, Tryz.results142, go_sem, x0, x1, Tryz.sizeOf61, Tryz.isAgg61]) rfl ⟨rfl, X', K1.out, K2.out, S9.out.sub (List.sublist_cons_self _ _)⟩
theorem qLen (gb : Nat) (q : Option Addr) (n c : Nat) (m : Int) (w : World) (hB : Blk w gb 173 #[.slice q n c, .int .i64 m]) (hn : n ≤ 9223372036854775807) : Calls Tryz.prog 141 #[.pointer (some ⟨gb, 0, none⟩)] w fun e w' => e = .returned (.int .i64 n) ∧ w' = w := by
  have HL := Lib.hid (bLen gb q n c m w hB hn)
  have bz := hB.lt
  clear hB
  go_enter Tryz.func141, Tryz.ntmps141
  go_wp2_with (go_at_call 162; go_must (refine HL.out.mono ?_; rintro e w1 ⟨rfl, hw⟩; have hw := hw.symm; subst hw))
  go_ret
  exact ⟨rfl, rfl⟩
set_option maxRecDepth 100000 in
set_option maxHeartbeats 8000000 in
theorem qPut (gb : Nat) (q : Option Addr) (n c : Nat) (X p : List (Int × Int)) (x : Int × Int) (mo : Nat) (w w0 : World) (Γ : List Pc) (jb j : Nat) (S : Sep w0 w Γ) (hb : Γ[jb]? = some (.blk gb 173 #[.slice q n c, .int .i64 (mo:Int)])) (hj : Γ[j]? = some (.own 203 2 q n c (encE X))) (hne : jb ≠ j) (hn : n ≤ 80000) (hh : HeapN ltR n X) (hp : X.Perm ((sortN p).take mo)) :
    Calls Tryz.prog 117 #[.pointer (some ⟨gb, 0, none⟩), .agg #[.int .i64 x.1, .int .i64 x.2]] w fun e w' => (∃ v, e = .returned v) ∧ ∃ (q' : Option Addr) (n' c' : Nat) (X' : List (Int × Int)), n' ≤ n + 1 ∧ HeapN ltR n' X' ∧ X'.Perm ((sortN (p ++ [x])).take mo) ∧ Sep w0 w' ((Γ.set j (.own 203 2 q' n' c' (encE X'))).set jb (.blk gb 173 #[.slice q' n' c', .int .i64 (mo:Int)])) := by
  have hnX : n = X.length := (S.rd j hj (by omega)).nE
  have HNX := Lib.hid hnX
  have S0 := Lib.hid ((S.al #[.int .i64 x.1, .int .i64 x.2] 61 w.heap.size rfl).al #[.int .i64 0, .int .i64 0] 61 (w.heap.size + 1) (by simp))
  have HPU := Lib.hid (fun D SD => bHeapPush gb q n c X x mo D w0 (.blk (w.heap.size + 1) 61 #[.int .i64 0, .int .i64 0] :: .blk w.heap.size 61 #[.int .i64 x.1, .int .i64 x.2] :: Γ) (jb + 1 + 1) (j + 1 + 1) SD hb hj (by omega) (by omega) hh)
  clear S hh hnX
  go_enter Tryz.func117, Tryz.ntmps117
  go_wp2
  obtain ⟨Y, hY⟩ : ∃ Y, Y = (w.alloc (.cells #[.int .i64 x.1, .int .i64 x.2] 61)).alloc (.cells #[.int .i64 0, .int .i64 0] 61) := ⟨_, rfl⟩
  rw [← hY] at S0 ⊢
  clear hY
  have h0 : Y.cell? ⟨w.heap.size, 0, none⟩ = some (.int .i64 x.1) := (S0.out.blk 1 rfl).cell 0
  have h1 : Y.cell? ⟨w.heap.size, 1, none⟩ = some (.int .i64 x.2) := (S0.out.blk 1 rfl).cell 1
  refine wp_region_noPanic ?_
  refine wp_region_held_drew (S := fun w' => w'.cell? ⟨w.heap.size, 0, none⟩ = some (.int .i64 x.1) ∧ w'.cell? ⟨w.heap.size, 1, none⟩ = some (.int .i64 x.2)) (by kernel_rfl) ⟨h0, h1⟩ (fun hHeld => ?_)
  have SD := Lib.hid S0.out.drew
  clear S0 h0 h1
  generalize Y.drew = D at SD hHeld ⊢
  refine wpAnyH_take (i := 0) (v := .pointer (some ⟨gb, 0, none⟩)) rfl (by kernel_rfl) (by kernel_rfl) (by kernel_rfl) (noPanic_q _ _) (Or.inl ⟨by kernel_rfl, fun W hSw => by obtain ⟨h1, h2⟩ := hSw; go_simp⟩) hHeld ?_
  refine wpAnyH_take (i := 1) (v := .pointer (some ⟨gb, 0, none⟩)) rfl (by kernel_rfl) (by kernel_rfl) (by kernel_rfl) (noPanic_q _ _) (Or.inl ⟨by kernel_rfl, fun W hSw => by obtain ⟨h1, h2⟩ := hSw; go_simp⟩) hHeld ?_
  refine wpAnyH_take (i := 2) (v := .pointer (some ⟨gb, 0, none⟩)) rfl (by kernel_rfl) (by kernel_rfl) (by kernel_rfl) (noPanic_q _ _) (Or.inl ⟨by kernel_rfl, fun W hSw => by obtain ⟨h1, h2⟩ := hSw; go_simp⟩) hHeld ?_
  refine wpAnyH_take (i := 3) (v := .iface 202 (.pointer (some ⟨gb, 0, none⟩))) rfl (by kernel_rfl) (by kernel_rfl) (by kernel_rfl) (noPanic_q _ _) (Or.inl ⟨by kernel_rfl, fun W hSw => by obtain ⟨h1, h2⟩ := hSw; go_simp⟩) hHeld ?_
  refine wpAnyH_take (i := 4) (v := .agg #[.int .i64 x.1, .int .i64 x.2]) rfl (by kernel_rfl) (by kernel_rfl) (by kernel_rfl) (noPanic_q _ _) (Or.inl ⟨by kernel_rfl, fun W hSw => by obtain ⟨h1, h2⟩ := hSw; go_simp⟩) hHeld ?_
  refine wpAnyH_take (i := 5) (v := .iface 203 (.agg #[.int .i64 x.1, .int .i64 x.2])) rfl (by kernel_rfl) (by kernel_rfl) (by kernel_rfl) (noPanic_q _ _) (Or.inl ⟨by kernel_rfl, fun W hSw => by obtain ⟨h1, h2⟩ := hSw; go_simp⟩) hHeld ?_
  refine wpAnyH_ready (rs := [6]) (by kernel_rfl) (by simp) (AllReadyH.cons rfl (fun K hK => ?_) AllReadyH.nil)
  go_simp
  refine (HPU.out _ SD.out).mono ?_
  rintro e w1 ⟨rfl, q1, c1, X1, k1, k2, k3⟩
  have K1 := Lib.hid k1
  have K2 := Lib.hid k2
  have S1 := Lib.hid k3
  refine hK.out _ _ ⟨(k3.blk 1 rfl).cell 0, (k3.blk 1 rfl).cell 1⟩ (fun hHeld => ?_)
  clear hK k1 k2 k3 SD HPU
  refine wpAnyH_done (by kernel_rfl) ?_ _
  refine noPanic_mk ?_
  clear hHeld
  go_wp2
  have HB1 := Lib.hid (S1.out.blk (jb + 1 + 1) (pc_set2 (by omega) hb))
  have b1 : w1.cell? ⟨gb, 1, none⟩ = some (.int .i64 (mo:Int)) := HB1.out.cell 1
  have HQ := Lib.hid (fun (y : ExtOf w1) => (qLen gb q1 (n + 1) c1 mo y.val (HB1.out.ext y.ext) (by omega)).mono fun e w' (h : e = .returned (.int .i64 ((n + 1 : Nat) : Int)) ∧ w' = y.val) => (⟨h.1, h.2 ▸ Below.refl _ _⟩ : e = .returned (.int .i64 ((n + 1 : Nat) : Int)) ∧ Ext y.val w'))
  have u1 := fun x : ExtOf w1 => x.ext.cell b1
  by_cases hle : n + 1 ≤ mo
  · have e1 : decide ((n:Int) + 1 ≤ (mo:Int)) = true := by simp; omega
    refine wp_region_ext (by kernel_rfl) (by kernel_rfl) ?_
    repeat (go_big_quiet_step (((go_at_call 141; exact Calls.ext_of (HQ.out _)))))
    refine wpQuiet_nil ?_
    rintro w9 ⟨⟨_, hb9⟩, rfl⟩
    have S2 := Lib.hid (S1.out.call hb9)
    have HRES := Lib.hid (first_room hp K1.out (by rw [K1.out.length_eq, List.length_append, List.length_singleton, ← HNX.out]; exact hle))
    have a0 := (S2.out.blk 0 rfl).cell 0
    have a1 := (S2.out.blk 0 rfl).cell 1
    have az := (S2.out.blk 0 rfl).lt
    have f0 := (S2.out.blk 0 rfl).frozen 0
    have f1 := (S2.out.blk 0 rfl).frozen 1
    have S9 := Lib.hid ((S2.out.set 0 rfl 0 (.int .i64 0)).set 0 rfl 1 (.int .i64 0))
    have x0 := (S9.out.blk 0 rfl).cell 0
    have x1 := (S9.out.blk 0 rfl).cell 1
    clear HB1 HQ b1 u1 hb9 S1 hp
    go_wp2
    refine bodyPost_ret (v := .tuple #[.agg #[.int .i64 0, .int .i64 0], .bool false]) (by simp [results, Tryz.results117, go_sem, x0, x1, Tryz.sizeOf61, Tryz.isAgg61]) rfl ⟨⟨_, rfl⟩, q1, n + 1, c1, X1, Nat.le_refl _, K2.out, HRES.out, (S9.out.sub (List.sublist_cons_self _ _)).sub (List.sublist_cons_self _ _)⟩
  · have e1 : decide ((n:Int) + 1 ≤ (mo:Int)) = false := by simp; omega
    refine wp_region_ext (by kernel_rfl) (by kernel_rfl) ?_
    repeat (go_big_quiet_step (((go_at_call 141; exact Calls.ext_of (HQ.out _)))))
    refine wpQuiet_nil ?_
    rintro w9 ⟨⟨_, hb9⟩, rfl⟩
    have S2 := Lib.hid (S1.out.call hb9)
    have HL1 : Hid (X1.length = n + 1) := by unfold Hid; rw [K1.out.length_eq, List.length_append, List.length_singleton, ← HNX.out]
    have HMIN : Hid (∀ b ∈ X1, ltN (nth X1 0) b = false) := fun b hb => by
      obtain ⟨i, hi, rfl⟩ := List.mem_iff_getElem.1 hb
      have := heap_min stoR K2.out i (by rw [← HL1.out]; exact hi)
      rw [nth_eq hi] at this
      exact this
    have HLA := Lib.hid (bLast gb q1 n c1 X1 mo w9 w0 _ (jb + 1 + 1) (j + 1 + 1) S2.out (pc_set2 (by omega) hb) (pc_setj (by omega) hj) (by omega) (by omega) K2.out)
    clear HB1 HQ b1 u1 hb9 S1 S2
    have hne2 : jb + 1 + 1 ≠ j + 1 + 1 := by omega
    go_wp2_with (go_at_call 142; go_must (refine HLA.out.mono ?_; rintro e w3 ⟨rfl, X2, k1, k2, k3⟩; rw [set_set2 hne2] at k3; have J1 := Lib.hid k1; have J2 := Lib.hid k2; have S2 := Lib.hid k3; clear k1 k2 k3; have a0 := (S2.out.blk 0 rfl).cell 0; have a1 := (S2.out.blk 0 rfl).cell 1; have az := (S2.out.blk 0 rfl).lt; have f0 := (S2.out.blk 0 rfl).frozen 0; have f1 := (S2.out.blk 0 rfl).frozen 1))
    have HRES := Lib.hid (first_full hp K1.out (by rw [HL1.out]; omega) HMIN.out J1.out)
    have S9 := Lib.hid ((S2.out.set 0 rfl 0 (.int .i64 (nth X1 0).1)).set 0 rfl 1 (.int .i64 (nth X1 0).2))
    have x0 := (S9.out.blk 0 rfl).cell 0
    have x1 := (S9.out.blk 0 rfl).cell 1
    refine bodyPost_ret (v := .tuple #[.agg #[.int .i64 (nth X1 0).1, .int .i64 (nth X1 0).2], .bool true]) (by simp [results, Tryz.results117, go_sem, x0, x1, Tryz.sizeOf61, Tryz.isAgg61]) rfl ⟨⟨_, rfl⟩, q1, n, c1, X2, by omega, J2.out, HRES.out, (S9.out.sub (List.sublist_cons_self _ _)).sub (List.sublist_cons_self _ _)⟩
end Go.Proofs.YtkekibnhmfmhmaaGreat
/- The library's Clone and SortFunc on best.hit. -/
namespace Go.Proofs.YtkekibnhmfmhmaaGreat
open Go Go.RowKit Go.Shelf Go.Lib Go.Sort
theorem bToL (x y : Int × Int) (W : World) : Calls Tryz.prog 145 #[.agg #[.int .i64 x.1, .int .i64 x.2], .agg #[.int .i64 y.1, .int .i64 y.2]] W fun e w' => e = .returned (.int .i64 (cmpN x y)) ∧ ∃ q os', w' = grow (W.drewN q) os' := by
  refine (bTo x y W).mono ?_
  rintro e w' ⟨rfl, rfl⟩
  refine ⟨rfl, 0, #[.cells #[.int .i64 x.1, .int .i64 x.2] 203, .cells #[.int .i64 y.1, .int .i64 y.2] 203], ?_⟩
  rw [alloc_eq_grow, alloc_eq_grow, grow_grow]
  rfl
theorem ltOf_cmpN (x y : Int × Int) : ltOf cmpN x y = ltN x y := cmpN_neg x y
theorem swoH : SWO (ltOf cmpN) where
  irrefl x := by rw [ltOf_cmpN]; exact stoN.irrefl _
  trans x y z h1 h2 := by rw [ltOf_cmpN] at *; exact stoN.trans _ _ _ h1 h2
  ntrans x y z h1 h2 := by rw [ltOf_cmpN] at *; rw [ltN_no] at *; omega
theorem totH (x y : Int × Int) (h1 : ltOf cmpN x y = false) (h2 : ltOf cmpN y x = false) : x = y := by
  rw [ltOf_cmpN] at *; exact stoN.tri _ _ h1 h2
theorem sortBy_sorts (l : List (Int × Int)) : SortsN (sortBy ltN l) ∧ (sortBy ltN l).Perm l := by
  refine ⟨?_, List.mergeSort_perm l _⟩
  have := List.pairwise_mergeSort (le := fun x y : Int × Int => !ltN y x) (fun a b c h k => by
    simp only [Bool.not_eq_true'] at *
    exact stoN.le_trans h k) (fun a b => by
    cases h : ltN b a with
    | false => rfl
    | true => rw [stoN.asymm h]; rfl) l
  exact this.imp fun {a b} h => by simpa using h
theorem SortH (base : Nat) (q : Option Addr) (n c : Nat) (l : List (Int × Int)) (w : World) (ho : w.ownsRow base 203 2 (.slice q n c) n (encE l)) (hn : n ≤ 1000000) (hb : base ≤ w.heap.size) :
    Calls Tryz.prog 144 #[.slice q n c, .func (.func 145) #[] #[]] w fun e w' =>
      e = .returned (.tuple #[]) ∧ w'.ownsRow base 203 2 (.slice q n c) n (encE (sortBy ltN l)) ∧ w.grownBy w' (blkOf q) := by
  have hl : n = l.length := by have := ho.1; rw [encE_len] at this; omega
  by_cases h0 : n = 0
  · subst h0
    have hnil : l = [] := List.eq_nil_of_length_eq_zero hl.symm
    subst hnil
    refine (AnyF.slices_SortFunc_none { Tryz.sortH with } q c (.func (.func 145) #[] #[]) w).mono ?_
    rintro e w' ⟨he, rfl⟩
    exact ⟨he, by simpa [sortBy] using ho, World.grownBy.refl _ _⟩
  · obtain ⟨g, hq, hg⟩ := own_block ho h0
    subst hq
    have eg : ∀ args w, (callFunc 145 args).run Tryz.prog w = .ok (.enter 145 args) w := enters_of Tryz.func145 (by kernel_rfl) rfl
    have hH : HoldsK encP 2 w g 0 l.toArray := by
      intro j hj
      have hj2 : j < n * 2 := by simp at hj; omega
      have r := Rd.of_own ho (by omega)
      have hc := r.cells j hj2
      rw [adr_some] at hc
      have hv : (flatK encP 2 l.toArray)[j]! = (encE l).getD j undef := by
        rw [getElem!_pos _ j hj, ← flatK_encP, List.getD_eq_getElem?_getD, Array.getElem?_toList, Array.getElem?_eq_getElem hj]; rfl
      refine ⟨by rw [hv]; exact hc, ?_⟩
      rcases ho.2 with ⟨h1, _⟩ | ⟨g', cap, cur, h1, _, hh, _⟩
      · cases h1
      · injection h1 with h1; injection h1 with h1; injection h1 with h1; subst h1
        simp [World.frozen?, hh]
    have hcon := AnyQ.slices_SortFunc_total Tryz.sortH 2 Tryz.isAgg203 Tryz.sizeOf203 encP (fun _ => rfl) (fun x v hv => by simp [encP] at hv; rcases hv with rfl | rfl <;> rfl) cmpN swoH 145 #[] g 0 c l.toArray w eg
      (fun m os dk hs x y => bToL x y _) hH hg (by simp; omega) totH
    have hsz : l.toArray.size = n := by simp [hl]
    rw [hsz] at hcon
    refine hcon.mono ?_
    rintro e w' ⟨he, m, os, rfl⟩
    have e1 : (fun x y => !(ltOf cmpN) y x) = fun x y : Int × Int => !ltN y x := by funext x y; rw [ltOf_cmpN]
    have e2 : (flatK encP 2 (l.toArray.toList.mergeSort fun x y => !(ltOf cmpN) y x).toArray) = (encE (sortBy ltN l)).toArray := by
      apply Array.toList_inj.1
      rw [flatK_encP, e1]; rfl
    have hp := own_put ho (ys := encE (sortBy ltN l)) (by rw [encE_len, sortBy_len, hl]) m os
    have e3 : sortWorldK encP 2 w g 0 m (l.toArray.toList.mergeSort fun x y => !(ltOf cmpN) y x).toArray os = grow (putRow id (Sort.ahead w m) g 0 (encE (sortBy ltN l)).toArray) os := by
      unfold sortWorldK putRowK; rw [e2]
    rw [e3]
    exact ⟨he, hp.1, hp.2⟩
theorem SortH_sep {w0 w : World} {Γ : List Pc} (S : Sep w0 w Γ) (j : Nat) {q : Option Addr} {n c : Nat} {l : List (Int × Int)} (hj : Γ[j]? = some (.own 203 2 q n c (encE l))) (hn : n ≤ 1000000) :
    Calls Tryz.prog 144 #[.slice q n c, .func (.func 145) #[] #[]] w fun e w' => e = .returned (.tuple #[]) ∧ Sep w0 w' (Γ.set j (.own 203 2 q n c (encE (sortBy ltN l)))) :=
  (SortH _ q n c l w (S.own j hj) hn S.ext.size).mono fun _ _ ⟨he, ho, hg⟩ => ⟨he, S.put j hj _ hg (fun _ hk => hk) (own_base ho (Nat.zero_le _)) fun _ hk => .inl hk⟩
theorem CloneH (p : Option Addr) (n c : Nat) (l : List (Int × Int)) (w : World) (hl : Rd w 2 p n (encE l)) (hn : n ≤ 100000) :
    Calls Tryz.prog 143 #[.slice p n c] w fun e w' => ∃ q c', e = .returned (.slice q n c') ∧ Sep w w' [.own 203 2 q n c' (encE l)] := by
  obtain ⟨i0, hi0, hz0, hz1, hz2⟩ := info_parts infBh
  have hp := hl.ptr
  cases p with
  | none =>
    have h0 : n = 0 := by rcases hp with h | ⟨_, _, h⟩; exact h; cases h
    subst h0
    have hnil : encE l = [] := List.eq_nil_of_length_eq_zero (by have := hl.len; simpa using this)
    rw [hnil]
    clear hl hp hnil
    have hr := fun W => Lib.run_eql_slice_nil (P := Tryz.prog) W 169 203 none 0 c 0 0 Tryz.underlying169
    go_enter Tryz.func143, Tryz.ntmps143
    go_wp2
    go_ret
    exact ⟨none, 0, rfl, (Sep.start w).nilrow _ _⟩
  | some ad =>
    have hr := fun W => Lib.run_eql_slice_nil (P := Tryz.prog) W 169 203 (some ad) n c 0 0 Tryz.underlying169
    have HL := Lib.hid hl; clear hl hp
    go_enter Tryz.func143, Tryz.ntmps143
    go_wp2_with (at_builtin; refine wpList_append_rd rfl _ _ _ rfl w.heap.size 203 i0 _ 2 16 Tryz.underlying169 hi0 hz0 hz1 hz2 rfl (by omega) (some ⟨w.heap.size, 0, none⟩) 0 0 [] rfl (World.ownsRow_made w #[] 0 (Nat.le_refl _) (by simp [maxLen]) rfl) (some ad) n c (encE l) rfl (HL.out.ext (Ext.alloc (Below.refl _ _) _)) (one_encE l) (by omega) (by omega) (by simp) ?_; intro q' c' w1 hown hg hat hb)
    go_ret
    simp only [Nat.zero_add, List.nil_append] at hown
    exact ⟨q', c', rfl, Sep.of_own (Below.trans ((Below.refl _ _).alloc (Nat.le_refl _) _) hb) hown⟩
end Go.Proofs.YtkekibnhmfmhmaaGreat
/- The program's queue (chapter 10): All; First. -/
namespace Go.Proofs.YtkekibnhmfmhmaaGreat
open Go Go.RowKit
theorem infAh : (Tryz.prog.info? 61).map (fun i => (i.zero, i.size, i.bytes)) = some (some (.agg #[.int .i64 0, .int .i64 0]), 2, 16) := by kernel_rfl
theorem Rd.one2g (w : World) (t : TypeId) (a b : Int) (g : Nat) (h : w.heap.size = g) : Rd (w.alloc (.cells #[.int .i64 a, .int .i64 b] t)) 2 (some ⟨g, 0, none⟩) 1 (encE [(a, b)]) := by subst h; exact Rd.one2 w t a b
set_option maxRecDepth 100000 in
set_option maxHeartbeats 4000000 in
theorem qAll (gb : Nat) (q : Option Addr) (n c : Nat) (X : List (Int × Int)) (mo : Int) (w : World) (hB : Blk w gb 173 #[.slice q n c, .int .i64 mo]) (hl : Rd w 2 q n (encE X)) (hn : n ≤ 80000) :
    Calls Tryz.prog 118 #[.pointer (some ⟨gb, 0, none⟩)] w fun e w' => ∃ q' c', e = .returned (.slice q' n c') ∧ Sep w w' [.own 61 2 q' n c' (encE (sortBy ltN X))] := by
  obtain ⟨i0, hi0, hz0, hz1, hz2⟩ := info_parts infAh
  have b0 : w.cell? ⟨gb, 0, none⟩ = some (.slice q n c) := hB.cell 0
  have bz := hB.lt
  have hnX := hl.nE
  obtain ⟨Y, hY⟩ : ∃ Y, sortBy ltN X = Y := ⟨_, rfl⟩
  have LX : Hid (Y.length = n) := by unfold Hid; rw [← hY, sortBy_len, ← hnX]
  have HY := Lib.hid hY
  rw [hY]
  have HC := Lib.hid (CloneH q n c X w hl (by omega))
  clear hB hl hnX hY
  go_enter Tryz.func118, Tryz.ntmps118
  go_wp2_with (first
    | (go_at_call 144; go_must (refine (SortH_sep S1.out 0 rfl (by omega)).mono ?_; rintro e w2 ⟨rfl, Z⟩; rw [HY.out] at Z; have S2 := Lib.hid (Z.nilrow 61 2); clear Z))
    | (go_at_call 143; go_must (refine HC.out.mono ?_; rintro e w1 ⟨q1, c1, rfl, Z⟩; have S1 := Lib.hid Z; clear Z)))
  have S3 := Lib.hid (S2.out : Sep w w2 [.own 61 2 none 0 0 [], .own 203 2 q1 n c1 (encE Y)])
  clear S1 S2 b0 bz HC
  go_loopw [4, 6, 19] (fun v _ i wr => ∃ (j : Nat) (q' : Option Addr) (c' : Nat), j ≤ n ∧ i = .int .i64 j ∧ v = .slice q' j c' ∧ Sep w wr [.own 61 2 q' j c' (encE (Y.take j)), .own 203 2 q1 n c1 (encE Y)]) (fun _ _ i _ => n - (intOf i).toNat)
  case atStart => exact ⟨0, none, 0, Nat.zero_le _, rfl, rfl, S3.out⟩
  case round =>
    clear S3
    obtain ⟨j, q', c', hj, rfl, rfl, S⟩ := hrel
    by_cases hlt : j < n
    · have hr := S.rdx 1 rfl
      have g1 := hr.cE hlt
      have g2 := hr.cE2 hlt
      have p1 := hr.ptr
      have HT := Lib.hid (take_succ_nth Y j (by rw [LX.out]; exact hlt))
      have d1 : (0:Int) ≤ j := by omega
      have d2 : (j:Int) < n := by omega
      clear hr
      have SH := Lib.hid S; clear S
      generalize nth Y j = y at *
      go_wp2_with (at_builtin; go_must (refine wpList_append_sep rfl _ _ _ rfl 61 i0 _ 2 16 Tryz.underlying31 hi0 hz0 hz1 hz2 rfl (by omega) ((SH.out.junk _).junk _) 0 q' j c' _ rfl rfl _ 1 1 _ rfl (Rd.one2g _ _ _ _ _ (by simp)) (one_encE _) (by omega) (by omega) ?_; intro q7 c7 w7 S' hsz; have S7 := Lib.hid S'; clear S' hsz))
      go_roundw
      case rel => exact ⟨j + 1, q7, c7, by omega, by go_num, rfl, by rw [HT.out, encE_append]; exact S7.out⟩
      case measure => simp [intOf]; omega
    · obtain rfl : j = n := by omega
      rw [List.take_of_length_le (by rw [LX.out]; exact Nat.le_refl _)] at S
      have SH := Lib.hid S; clear S
      go_wp2
      go_ret
      exact ⟨q', c', rfl, SH.out.pick [0] (by decide) rfl⟩
set_option maxRecDepth 100000 in
set_option maxHeartbeats 4000000 in
theorem First10 (p : Option Addr) (n c : Nat) (l : List (Int × Int)) (k : Int) (w : World) (hl : Rd w 2 p n (encE l)) (hn : n ≤ 10000) :
    Calls Tryz.prog 81 #[.slice p n c, .int .i64 k] w fun e w' => ∃ q c', e = .returned (.slice q (firstN l k).length c') ∧ Sep w w' [.own 61 2 q (firstN l k).length c' (encE (firstN l k))] := by
  have p1 := hl.ptr
  have n1 := hl.small
  have L1 := Lib.hid hl.nE
  by_cases h1 : k < 1
  · have HF : Hid (firstN l k = []) := by unfold Hid firstN; rw [if_pos h1]
    rw [HF.out]
    have S0 := Lib.hid ((Sep.start w).nilrow 61 2)
    clear HF hl
    go_enter Tryz.func81, Tryz.ntmps81
    go_wp2
    go_ret
    exact ⟨none, 0, rfl, S0.out⟩
  · obtain ⟨mo, rfl⟩ : ∃ mo : Nat, k = mo := ⟨k.toNat, by omega⟩
    have e1 : decide ((mo:Int) < 1) = false := by simpa using h1
    have HF : Hid (firstN l mo = (sortN l).take mo) := by unfold Hid firstN; rw [if_neg h1, Int.toNat_natCast]
    rw [HF.out]
    obtain ⟨F, hF⟩ : ∃ F, (sortN l).take mo = F := ⟨_, rfl⟩
    rw [hF]
    have HF2 := Lib.hid hF
    clear hF
    have HL := Lib.hid hl
    have S0 := Lib.hid (((Sep.start w).al #[.slice none 0 0, .int .i64 (mo:Int)] 173 w.heap.size rfl).nilrow 203 2)
    clear hl h1 HF
    go_enter Tryz.func81, Tryz.ntmps81
    go_wp2
    go_loopw [7, 15] (fun _ i wr => ∃ (j : Nat) (q : Option Addr) (m d : Nat) (X : List (Int × Int)), j ≤ n ∧ i = .int .i64 j ∧ m ≤ j ∧ Hid (HeapN ltR m X) ∧ Hid (X.Perm ((sortN (l.take j)).take mo)) ∧ Sep w wr [.own 203 2 q m d (encE X), .blk w.heap.size 173 #[.slice q m d, .int .i64 (mo:Int)]]) (fun _ i _ => n - (intOf i).toNat)
    case atStart => exact ⟨0, none, 0, 0, [], Nat.zero_le _, rfl, Nat.zero_le _, fun i h0 h1 => by omega, by unfold Hid; rw [List.take_zero]; simp [sortN], S0.out⟩
    case round =>
      clear S0
      obtain ⟨j, q, m, d, X, hj, rfl, hm, HH, HP, S⟩ := hrel
      by_cases hlt : j < n
      · have g1 := S.ext.cell (HL.out.cE hlt)
        have g2 := S.ext.cell (HL.out.cE2 hlt)
        have HT := Lib.hid (take_succ_nth l j (by rw [← L1.out]; exact hlt))
        have d1 : (0:Int) ≤ j := by omega
        have d2 : (j:Int) < n := by omega
        have SH := Lib.hid S; clear S
        generalize nth l j = y at *
        have HPU := Lib.hid (qPut w.heap.size q m d X (l.take j) y mo _ w (.blk wr.heap.size 61 #[.int .i64 y.1, .int .i64 y.2] :: [.own 203 2 q m d (encE X), .blk w.heap.size 173 #[.slice q m d, .int .i64 (mo:Int)]]) 2 1 (SH.out.al #[.int .i64 y.1, .int .i64 y.2] 61 wr.heap.size rfl) rfl rfl (by omega) (by omega) HH.out HP.out)
        go_wp2_with (go_at_call 117; go_must (refine HPU.out.mono ?_; rintro e w3 ⟨⟨v, rfl⟩, q', m', d', X', k1, k2, k3, Z⟩; have K2 := Lib.hid k2; have K3 := Lib.hid k3; have S3 := Lib.hid Z; clear k2 k3 Z))
        go_roundw
        case rel => exact ⟨j + 1, q', m', d', X', by omega, by go_num, by omega, K2.out, by rw [HT.out]; exact K3.out, S3.out.pick [1, 2] (by decide) rfl⟩
        case measure => simp [intOf]; omega
      · obtain rfl : j = n := by omega
        have HX : Hid (sortBy ltN X = F) := by
          have hp := HP.out
          rw [List.take_of_length_le (l := l) (by rw [← L1.out]; exact Nat.le_refl _)] at hp
          unfold Hid
          rw [← HF2.out]
          exact first_uniq (sortBy_sorts X).1 ((sortBy_sorts X).2.trans hp)
        have HM : Hid (m = F.length) := by
          unfold Hid
          rw [← HX.out, sortBy_len, ← (S.rdx 0 rfl).nE]
        have HA := Lib.hid (qAll w.heap.size q m d X mo wr (S.blk 1 rfl) (S.rdx 0 rfl) (by omega))
        rw [HX.out] at HA
        have SH := Lib.hid S; clear S
        go_wp2_with (go_at_call 118; go_must (refine HA.out.mono ?_; rintro e w3 ⟨q', d', rfl, Z⟩; have S3 := Lib.hid (SH.out.comp Z); clear Z))
        go_ret
        have T : Sep w w3 [.own 61 2 q' m d' (encE F)] := S3.out.pick [0] (by decide) rfl
        rw [HM.out] at T
        exact ⟨q', d', ret_slc HM.out, T⟩
end Go.Proofs.YtkekibnhmfmhmaaGreat
/- The document's queue (chapter 10, reference): put (Nr3's text at ref10.put); First. -/
namespace Go.Proofs.YtkekibnhmfmhmaaGreat
open Go Go.RowKit
set_option maxRecDepth 100000 in
set_option maxHeartbeats 8000000 in
theorem Put10 (p : Option Addr) (n c : Nat) (l : List (Int × Int)) (x : Int × Int) (w : World) (hl : Rd w 2 p n (encE l)) (hc : n ≤ c) (hn : n ≤ 100000) :
    Calls Tryz.prog 119 #[.slice p n c, .agg #[.int .i64 x.1, .int .i64 x.2]] w fun e w' => ∃ q c', e = .returned (.slice q (putN x l).length c') ∧ Sep w w' [.own 61 2 q (putN x l).length c' (encE (putN x l))] := by
  obtain ⟨i0, hi0, hz0, hz1, hz2⟩ := info_parts infAh
  have S0 := Lib.hid ((Sep.start w).al #[.int .i64 x.1, .int .i64 x.2] 61 w.heap.size rfl)
  have hln := hl.nE
  have LL := Lib.hid hln
  have p1 := hl.ptr
  have HL := Lib.hid hl
  have HA := fun (b : Int × Int) W => Ahead09 x b W
  obtain ⟨x1, x2⟩ := x
  simp only at S0 HA ⊢
  clear hl hln
  go_enter Tryz.func119, Tryz.ntmps119
  go_wp2
  go_loopw [5] (fun i wr => ∃ k : Nat, k ≤ n ∧ i = .int .i64 k ∧ Hid (∀ i, i < k → ltN (x1, x2) (nth l i) = false) ∧ Sep w wr [.blk w.heap.size 61 #[.int .i64 x1, .int .i64 x2]]) (fun i _ => n - (intOf i).toNat)
  case atStart => exact ⟨0, Nat.zero_le _, rfl, fun i hi => by omega, S0.out⟩
  case round =>
    clear S0
    obtain ⟨k, hk, rfl, HK, S⟩ := hrel
    have b0 := (S.blk 0 rfl).cell 0
    have b1 := (S.blk 0 rfl).cell 1
    have bz := (S.blk 0 rfl).lt
    by_cases hlt : k < n
    · have hkL : k < l.length := by rw [← LL.out]; exact hlt
      have g1 := S.ext.cell (HL.out.cE hlt)
      have g2 := S.ext.cell (HL.out.cE2 hlt)
      have d1 : (0:Int) ≤ k := by omega
      have d2 : (k:Int) < n := by omega
      have HAT : Hid (ltN (x1, x2) (nth l k) = true → k = atN (x1, x2) l) := fun h => atN_eq (by omega) HK.out fun _ => h
      have HAK : Hid (ltN (x1, x2) (nth l k) = false → ∀ i, i < k + 1 → ltN (x1, x2) (nth l i) = false) := fun h i hi => by
        by_cases e : i = k
        · subst e; exact h
        · exact HK.out i (by omega)
      have HAx := Lib.hid (fun y : ExtOf wr => HA (nth l k) y.val)
      generalize nth l k = y at *
      cases hy : ltN (x1, x2) y with
      | false =>
        rw [hy] at HAx
        have HK2 := Lib.hid (HAK.out hy)
        clear hy HAT HAK HK
        have SH := Lib.hid S; clear S
        go_wp2
        have u0 := fun x : ExtOf wr => x.ext.cell b0
        have u1 := fun x : ExtOf wr => x.ext.cell b1
        have u2 := fun x : ExtOf wr => x.ext.cell g1
        have u3 := fun x : ExtOf wr => x.ext.cell g2
        refine wp_region_ext (by kernel_rfl) (by kernel_rfl) ?_
        repeat (go_big_quiet_step (((go_at_call 43; exact Calls.ext_of (HAx.out _)))))
        refine wpQuiet_nil ?_
        rintro w9 ⟨⟨_, hb9⟩, rfl⟩
        go_wp2
        go_roundw
        case rel => exact ⟨k + 1, by omega, by go_num, HK2.out, SH.out.call hb9⟩
        case measure => simp [intOf]; omega
      | true =>
        rw [hy] at HAx
        have HE := Lib.hid (HAT.out hy)
        clear hy HAT HAK HK
        have SH := Lib.hid S; clear S
        go_wp2
        have u0 := fun x : ExtOf wr => x.ext.cell b0
        have u1 := fun x : ExtOf wr => x.ext.cell b1
        have u2 := fun x : ExtOf wr => x.ext.cell g1
        have u3 := fun x : ExtOf wr => x.ext.cell g2
        refine wp_region_ext (by kernel_rfl) (by kernel_rfl) ?_
        repeat (go_big_quiet_step (((go_at_call 43; exact Calls.ext_of (HAx.out _)))))
        refine wpQuiet_nil ?_
        rintro w9 ⟨⟨_, hb9⟩, rfl⟩
        have S9 := Lib.hid (SH.out.call hb9)
        have HF : Hid (putN (x1, x2) l = l.take k ++ ([(x1, x2)] ++ l.drop k)) := by unfold Hid putN; rw [← HE.out]
        have hkn : (k:Int) ≤ n := by omega
        clear hb9 g1 g2 HAx u0 u1 u2 u3 b0 b1 bz SH
        have b0 := (S9.out.blk 0 rfl).cell 0
        have b1 := (S9.out.blk 0 rfl).cell 1
        have bz := (S9.out.blk 0 rfl).lt
        go_wp2_with (first | (at_builtin; have _t := T2; go_must (refine wpList_append_sep rfl _ _ _ rfl 61 i0 _ 2 16 Tryz.underlying31 hi0 hz0 hz1 hz2 rfl (by omega) T2.out 0 q7 (k + 1) c7 _ rfl rfl _ _ _ (encE (l.drop k)) rfl (by have hz := rd_cutE (d := k) (HL.out.ext T2.out.ext) (by omega) hc; simpa [cutp, Addr.add] using hz) (one_encE _) (by omega) (by omega) ?_; intro q8 c8 w8 S' hsz; have T3 := Lib.hid S'; clear S' hsz)) | (at_builtin; have _t := T1; go_must (refine wpList_append_sep rfl _ _ _ rfl 61 i0 _ 2 16 Tryz.underlying31 hi0 hz0 hz1 hz2 rfl (by omega) (T1.out.junk _) 0 q6 k c6 _ rfl rfl _ 1 1 _ rfl (Rd.one2 _ _ _ _) (one_encE _) (by omega) (by omega) ?_; intro q7 c7 w7 S' hsz; have T2 := Lib.hid S'; clear S' hsz)) | (at_builtin; have _t := S9; go_must (refine wpList_append_sep rfl _ _ _ rfl 61 i0 _ 2 16 Tryz.underlying31 hi0 hz0 hz1 hz2 rfl (by omega) (S9.out.nilrow 61 2) 0 none 0 0 [] rfl rfl p k c _ rfl (rd_takeE (HL.out.ext S9.out.ext) (by omega)) (one_encE _) (by omega) (by omega) ?_; intro q6 c6 w6 S' hsz; (try simp only [Nat.zero_add, List.nil_append] at S'); have T1 := Lib.hid S'; have e0 := (S'.blk 1 rfl).cell 0; have e1 := (S'.blk 1 rfl).cell 1; have ez := (S'.blk 1 rfl).lt; clear S' hsz)))
        go_ret
        have hL2 : k + 1 + (n - k) = (putN (x1, x2) l).length := by (rw [putN_len, ← LL.out]; omega)
        have T : Sep w w8 [.own 61 2 q8 (k + 1 + (n - k)) c8 (encE (l.take k) ++ encE [(x1, x2)] ++ encE (l.drop k))] := T3.out.pick [0] (by decide) rfl
        rw [List.append_assoc, ← encE_append, ← encE_append, hL2, ← HF.out] at T
        exact ⟨q8, c8, ret_slc hL2, T⟩
    · have hkn' : k = n := by omega
      have HE : Hid (k = atN (x1, x2) l) := atN_eq (by have := LL.out; omega) HK.out fun h => absurd h (by have := LL.out; omega)
      have HF : Hid (putN (x1, x2) l = l.take k ++ ([(x1, x2)] ++ l.drop k)) := by unfold Hid putN; rw [← HE.out]
      have d2 : decide ((k:Int) < n) = false := by simp; omega
      have d2n : decide (k < n) = false := by simp; omega
      have d1 : (0:Int) ≤ k := by omega
      have hkn : (k:Int) ≤ n := by omega
      clear hkn' hlt HK
      have HAx := Lib.hid (fun y : ExtOf wr => HA (0, 0) y.val)
      have SH := Lib.hid S; clear S
      go_wp2
      have u0 := fun x : ExtOf wr => x.ext.cell b0
      have u1 := fun x : ExtOf wr => x.ext.cell b1
      refine wp_region_ext (by kernel_rfl) (by kernel_rfl) ?_
      repeat (go_big_quiet_step (((go_at_call 43; exact Calls.ext_of (HAx.out _)))))
      refine wpQuiet_nil ?_
      rintro w9 ⟨⟨_, hb9⟩, rfl⟩
      have S9 := Lib.hid (SH.out.call hb9)
      clear hb9 HAx u0 u1 b0 b1 bz SH
      have b0 := (S9.out.blk 0 rfl).cell 0
      have b1 := (S9.out.blk 0 rfl).cell 1
      have bz := (S9.out.blk 0 rfl).lt
      go_wp2_with (first | (at_builtin; have _t := T2; go_must (refine wpList_append_sep rfl _ _ _ rfl 61 i0 _ 2 16 Tryz.underlying31 hi0 hz0 hz1 hz2 rfl (by omega) T2.out 0 q7 (k + 1) c7 _ rfl rfl _ _ _ (encE (l.drop k)) rfl (by have hz := rd_cutE (d := k) (HL.out.ext T2.out.ext) (by omega) hc; simpa [cutp, Addr.add] using hz) (one_encE _) (by omega) (by omega) ?_; intro q8 c8 w8 S' hsz; have T3 := Lib.hid S'; clear S' hsz)) | (at_builtin; have _t := T1; go_must (refine wpList_append_sep rfl _ _ _ rfl 61 i0 _ 2 16 Tryz.underlying31 hi0 hz0 hz1 hz2 rfl (by omega) (T1.out.junk _) 0 q6 k c6 _ rfl rfl _ 1 1 _ rfl (Rd.one2 _ _ _ _) (one_encE _) (by omega) (by omega) ?_; intro q7 c7 w7 S' hsz; have T2 := Lib.hid S'; clear S' hsz)) | (at_builtin; have _t := S9; go_must (refine wpList_append_sep rfl _ _ _ rfl 61 i0 _ 2 16 Tryz.underlying31 hi0 hz0 hz1 hz2 rfl (by omega) (S9.out.nilrow 61 2) 0 none 0 0 [] rfl rfl p k c _ rfl (rd_takeE (HL.out.ext S9.out.ext) (by omega)) (one_encE _) (by omega) (by omega) ?_; intro q6 c6 w6 S' hsz; (try simp only [Nat.zero_add, List.nil_append] at S'); have T1 := Lib.hid S'; have e0 := (S'.blk 1 rfl).cell 0; have e1 := (S'.blk 1 rfl).cell 1; have ez := (S'.blk 1 rfl).lt; clear S' hsz)))
      go_ret
      have hL2 : k + 1 + (n - k) = (putN (x1, x2) l).length := by (rw [putN_len, ← LL.out]; omega)
      have T : Sep w w8 [.own 61 2 q8 (k + 1 + (n - k)) c8 (encE (l.take k) ++ encE [(x1, x2)] ++ encE (l.drop k))] := T3.out.pick [0] (by decide) rfl
      rw [List.append_assoc, ← encE_append, ← encE_append, hL2, ← HF.out] at T
      exact ⟨q8, c8, ret_slc hL2, T⟩
set_option maxRecDepth 100000 in
set_option maxHeartbeats 4000000 in
theorem First10r (p : Option Addr) (n c : Nat) (l : List (Int × Int)) (k : Int) (w : World) (hl : Rd w 2 p n (encE l)) (hn : n ≤ 10000) :
    Calls Tryz.prog 83 #[.slice p n c, .int .i64 k] w fun e w' => ∃ q c', e = .returned (.slice q (firstN l k).length c') ∧ Sep w w' [.own 61 2 q (firstN l k).length c' (encE (firstN l k))] := by
  have p1 := hl.ptr
  have n1 := hl.small
  have L1 := Lib.hid hl.nE
  have HL := Lib.hid hl
  have S0 := Lib.hid ((Sep.start w).nilrow 61 2)
  obtain ⟨F, hF⟩ : ∃ F, firstN l k = F := ⟨_, rfl⟩
  rw [hF]
  have HF := Lib.hid hF
  clear hl hF
  go_enter Tryz.func83, Tryz.ntmps83
  go_wp2
  go_loopw [5, 6] (fun v i wr => ∃ (j : Nat) (q : Option Addr) (d : Nat), j ≤ n ∧ i = .int .i64 j ∧ v = .slice q j d ∧ Sep w wr [.own 61 2 q j d (encE (sortN (l.take j)))]) (fun _ i _ => n - (intOf i).toNat)
  case atStart => exact ⟨0, none, 0, Nat.zero_le _, rfl, rfl, S0.out⟩
  case round =>
    clear S0
    obtain ⟨j, q, d, hj, rfl, rfl, S⟩ := hrel
    by_cases hlt : j < n
    · have g1 := S.ext.cell (HL.out.cE hlt)
      have g2 := S.ext.cell (HL.out.cE2 hlt)
      have HT := Lib.hid (take_succ_nth l j (by rw [← L1.out]; exact hlt))
      have d1 : (0:Int) ≤ j := by omega
      have d2 : (j:Int) < n := by omega
      have hcap := own_cap (S.own 0 rfl)
      generalize nth l j = y at *
      have HS := Lib.hid (sortN_snoc (l.take j) y)
      rw [← HT.out] at HS
      have HPL : Hid ((putN y (sortN (l.take j))).length = j + 1) := by unfold Hid; rw [putN_len, ← (S.rdx 0 rfl).nE]
      have HPU := Lib.hid (Put10 q j d (sortN (l.take j)) y wr (S.rdx 0 rfl) hcap (by omega))
      rw [HPL.out, ← HS.out] at HPU
      have SH := Lib.hid S; clear S
      go_wp2_with (go_at_call 119; go_must (refine HPU.out.mono ?_; rintro e w3 ⟨q', d', rfl, Z⟩; have S3 := Lib.hid (SH.out.comp Z); clear Z))
      go_roundw
      case rel => exact ⟨j + 1, q', d', by omega, by go_num, rfl, S3.out.pick [0] (by decide) rfl⟩
      case measure => simp [intOf]; omega
    · obtain rfl : j = n := by omega
      rw [List.take_of_length_le (by rw [← L1.out]; exact Nat.le_refl _)] at S
      have hcap := own_cap (S.own 0 rfl)
      have hSL : (sortN l).length = j := by rw [sortN_len, ← L1.out]
      have S2 := Lib.hid S
      clear S
      by_cases h1 : k < 1
      · have HN : Hid (F = []) := by unfold Hid; rw [← HF.out]; unfold firstN; rw [if_pos h1]
        have T : Sep w wr [.own 61 2 none F.length 0 (encE F)] := by
          rw [HN.out]
          exact (S2.out.nilrow 61 2).pick [0] (by decide) rfl
        have HT := Lib.hid T
        clear T hSL
        go_wp2
        go_ret
        exact ⟨none, 0, ret_slc (by rw [HN.out]; rfl), HT.out⟩
      · obtain ⟨mo, rfl⟩ : ∃ mo : Nat, k = mo := ⟨k.toNat, by omega⟩
        have HFE : Hid (F = (sortN l).take mo) := by unfold Hid; rw [← HF.out]; unfold firstN; rw [if_neg h1, Int.toNat_natCast]
        obtain ⟨m, hm⟩ : ∃ m : Nat, m = min mo j := ⟨_, rfl⟩
        have hmn : min (mo:Int) (j:Int) = (m:Int) := by omega
        have HML : Hid (m = F.length) := by unfold Hid; rw [HFE.out, List.length_take, hSL]; exact hm
        have e1 : decide ((mo:Int) < 1) = false := by simpa using h1
        have m0 : (0:Int) ≤ (m:Int) := by omega
        have m1 : (m:Int) ≤ d := by omega
        have m2 : m ≤ d := by omega
        have hj2 : ([.own 61 2 q j d (encE (sortN l))] : List Pc)[0]? = some (.own 61 2 q j d (encE ((sortN l).take mo) ++ encE ((sortN l).drop mo))) := by rw [← encE_append, List.take_append_drop]; rfl
        have T := Sep.cut S2.out 0 m hj2 (by rw [encE_len, List.length_take, hSL, hm]) (by omega)
        rw [← HFE.out] at T
        have T2 : Sep w wr [.own 61 2 q m d (encE F)] := T
        rw [HML.out] at T2
        have HT := Lib.hid T2
        have hcp : cutp q d 0 2 = q := by
          rcases Nat.eq_zero_or_pos j with h0 | h0
          · rcases (S2.out.own 0 rfl).2 with ⟨h2, _⟩ | ⟨g, cap, cur, h2, _⟩
            · injection h2 with h2
              rw [h2]; unfold cutp; split <;> rfl
            · injection h2 with h2
              rw [h2]; unfold cutp; split
              · rfl
              · simp [Addr.add]
          · obtain ⟨g, h2, _⟩ := own_block (S2.out.own 0 rfl) (by omega)
            rw [h2]; unfold cutp; split
            · rfl
            · simp [Addr.add]
        clear T T2 hSL hj2 hm h1 hcap hj hlt
        go_wp2
        go_ret
        exact ⟨q, d, ret_slc HML.out, HT.out⟩
end Go.Proofs.YtkekibnhmfmhmaaGreat
/- Maps with texts as keys, whatever the elements; rows that lie apart, one of which is appended to. -/
namespace Go.Proofs.YtkekibnhmfmhmaaGreat
open Go Go.RowKit Go.Maps Go.WideElems
/-- an element, held as it is -/
def heldR (v : Value) : Option (DataW Value × List MemPlace) := some (.held v, [])
def keyT (s : ByteArray) : Lit := .string s.data.toList
theorem keyT_inj {s t : ByteArray} (h : keyT s = keyT t) : s = t := by
  unfold keyT at h; injection h with h
  exact ByteArray.ext (Array.toList_inj.1 h)
/-- block b is a map of at most n entries that reads as f -/
def MapT (P : Program) (k : TypeId) (b n : Nat) (f : ByteArray → Option Value) (w : World) : Prop :=
  ∃ D : DataW Value, w.ownsMap P k heldR b n D ∧ (∀ s, s.size ≤ 1000000 → Maps.has D (keyT s) = (f s).isSome) ∧ ∀ s v, f s = some v → s.size ≤ 1000000 ∧ ∀ zd, D.atKey (keyT s) zd = .held v
def upT (f : ByteArray → Option Value) (s : ByteArray) (v : Value) : ByteArray → Option Value := fun t => if t = s then some v else f t
section
variable {P : Program} {k e : TypeId} {b n : Nat} {f : ByteArray → Option Value} {w w' : World}
theorem MapT.lt (h : MapT P k b n f w) : b < w.heap.size := by obtain ⟨D, h1, _⟩ := h; exact h1.lt
theorem MapT.loc (h : MapT P k b n f w) (hb : w'.heap[b]? = w.heap[b]?) : MapT P k b n f w' := by
  obtain ⟨D, ⟨es, clock, h1, F, h2, h3⟩, hf⟩ := h
  exact ⟨D, ⟨es, clock, hb.trans h1, F, h2, h3⟩, hf⟩
theorem MapT.made (w : World) : MapT P k w.heap.size 0 (fun _ => none) (w.alloc (.map #[] 0)) :=
  ⟨.map [], World.ownsMap_made w P k _, fun x _ => rfl, fun x v h => by cases h⟩
def Pc.mapT (P : Program) (k : TypeId) (b n : Nat) (f : ByteArray → Option Value) : Pc :=
  ⟨fun i => i = b, fun w => MapT P k b n f w, fun _ h i hi => by subst hi; exact h.lt, fun _ _ h hi => h.loc (hi b rfl)⟩
theorem keyT_of (hk : P.underlying k = some .string) {s : ByteArray} (hs : s.size ≤ 1000000) : keyOf P k (.string s) = some (keyT s) := WideMaps.keyOf_string_mk hk (by unfold maxLen; omega)
theorem isKeyT (hk : P.underlying k = some .string) {s : ByteArray} (hs : s.size ≤ 1000000) : WideAt.IsKeyLit (keyT s) := (string_keyed hk).key (keyT_of hk hs)
theorem MapT.update {t : TypeId} (h : MapT P k b n f w) (hk : P.underlying k = some .string) (ht : P.underlying t = some (.map k e)) (hn : n < 140737488355328) {s : ByteArray} (hs : s.size ≤ 1000000) (v : Value) :
    ∃ w', (Instr.mapUpdate t (.map (some b)) (.string s) v).run P w = .ok () w' ∧ MapT P k b (n + 1) (upT f s v) w' ∧ w.grownBy w' (some b) := by
  obtain ⟨D, h1, h2, h3⟩ := h
  obtain ⟨w', hr, ho, hg⟩ := h1.update (string_keyed hk) ht (by unfold maxLen; omega) (keyT_of hk hs) (show heldR v = some (.held v, []) from rfl)
  have hm := h1.isMap
  refine ⟨w', hr, ⟨_, ho, fun y hy => ?_, fun y u hu => ?_⟩, hg⟩
  · unfold upT
    by_cases e : y = s
    · subst e; rw [has_put_same hm (isKeyT hk hs)]; simp
    · rw [has_put_other (fun h => e (keyT_inj h)), if_neg e]; exact h2 y hy
  · unfold upT at hu
    by_cases e : y = s
    · subst e; simp at hu; subst hu; exact ⟨hs, fun zd => atKey_put_same hm (isKeyT hk hs) _ _⟩
    · rw [if_neg e] at hu
      obtain ⟨g1, g2⟩ := h3 y u hu
      exact ⟨g1, fun zd => by rw [atKey_put_other (fun h => e (keyT_inj h))]; exact g2 zd⟩
theorem MapT.lookup {t : TypeId} {z : Value} (h : MapT P k b n f w) (hk : P.underlying k = some .string) (ht : P.underlying t = some (.map k e)) (hz : (zeroValue e).run P w = .ok z w) {s : ByteArray} (hs : s.size ≤ 1000000) :
    (Instr.lookup t (.map (some b)) (.string s) false).run P w = .ok ((f s).getD z) w := by
  obtain ⟨D, h1, h2, h3⟩ := h
  obtain ⟨v, ps, hr, hv⟩ := h1.lookup (string_keyed hk) ht hz (show heldR z = some (.held z, []) from rfl) (keyT_of hk hs)
  have hat : D.atKey (keyT s) (.held z) = .held ((f s).getD z) := by
    cases hf : f s with
    | none => exact atKey_of_not_has (by rw [h2 s hs, hf]; rfl) _
    | some u => exact (h3 s u hf).2 _
  unfold heldR at hv
  injection hv with hv
  injection hv with hv
  rw [hat] at hv
  injection hv with hv
  rw [hr, hv]
variable {w0 : World} {Γ : List Pc} {ops : Array Oper} {rest : List Oper} {o : Oper} {a : Act} {Q : Exit → Act → World → Prop}
theorem Sep.mkmapT (S : Sep w0 w Γ) (P : Program) (k : TypeId) : Sep w0 (w.alloc (.map #[] 0)) (.mapT P k w.heap.size 0 (fun _ => none) :: Γ) :=
  S.comp (Δ := [.mapT P k w.heap.size 0 (fun _ => none)]) ⟨Ext.alloc (Below.refl _ _) _, fun p hp => by rw [List.mem_singleton] at hp; subst hp; exact MapT.made w, fun p hp i hi => by rw [List.mem_singleton] at hp; subst hp; have : i = w.heap.size := hi; omega, List.pairwise_singleton _ _⟩
theorem Sep.mapT (S : Sep w0 w Γ) (j : Nat) (hj : Γ[j]? = some (.mapT P k b n f)) : MapT P k b n f w := S.all _ (List.mem_of_getElem? hj)
theorem wpList_updateT_sep (hg : o.guard = none) (m x v : Operand) (t : TypeId) (hop : o.op = Op.mapUpdate t m x v) (hk : P.underlying k = some .string) (ht : P.underlying t = some (.map k e))
    (hm : a.eval m = .map (some b)) (S : Sep w0 w Γ) (j : Nat) (hj : Γ[j]? = some (.mapT P k b n f)) (hn : n < 140737488355328) (s : ByteArray) (u : Value) (hx : a.eval x = .string s) (hv : a.eval v = u) (hi : s.size ≤ 1000000)
    (hK : ∀ w', Sep w0 w' (Γ.set j (.mapT P k b (n + 1) (upT f s u))) → w.grownBy w' (some b) → wpList P ops Q rest (a.put o.dst undef) w') :
    wpList P ops Q (o :: rest) a w := by
  refine wpList_plain hg fun K' hK' => ?_
  obtain ⟨w', hrun, r1, r2⟩ := MapT.update (S.mapT j hj) hk ht hn hi u
  unfold Oper.wp
  simp [execOp, hop, hm, hx, hv, hrun, Result.andThen]
  exact hK' _ _ (hK w' (S.put j hj _ r2 (fun i hi => by injection hi with hi; exact hi.symm) r1 (fun i hi => .inl hi)) r2)
end
/-- rows that lie apart from one another -/
def apartR (r s : Hd × List Value) : Prop := ∀ k, blkOf r.1.p = some k → blkOf s.1.p ≠ some k
def Pc.rowsD (e : TypeId) (size : Nat) (rows : List (Hd × List Value)) : Pc :=
  ⟨fun k => ∃ r ∈ rows, blkOf r.1.p = some k, fun w => (∀ r ∈ rows, w.ownsRow 0 e size (.slice r.1.p r.1.n r.1.c) r.1.n r.2) ∧ rows.Pairwise apartR, fun _ h _ ⟨r, hr, hk⟩ => (own_lt (h.1 r hr) hk).2, fun _ _ h hk => ⟨fun r hr => own_loc (h.1 r hr) fun k hb => hk k ⟨r, hr, hb⟩, h.2⟩⟩
section
variable {P : Program} {w0 w : World} {Γ : List Pc} {e : TypeId} {size : Nat} {rows : List (Hd × List Value)}
theorem Sep.rowsD0 (S : Sep w0 w Γ) (e : TypeId) (size : Nat) : Sep w0 w (.rowsD e size [] :: Γ) :=
  ⟨S.ext, fun p hp => by
    rcases List.mem_cons.1 hp with rfl | h
    · exact ⟨fun r hr => (nomatch hr), List.Pairwise.nil⟩
    · exact S.all p h, fun p hp k hk => by
    rcases List.mem_cons.1 hp with rfl | h
    · obtain ⟨r, hr, _⟩ := hk; cases hr
    · exact S.new p h k hk, List.pairwise_cons.2 ⟨(fun q _ k ⟨r, hr, _⟩ => nomatch hr), S.apart⟩⟩
theorem Sep.rowsAt (S : Sep w0 w Γ) (j : Nat) (hj : Γ[j]? = some (.rowsD e size rows)) : (∀ r ∈ rows, w.ownsRow 0 e size (.slice r.1.p r.1.n r.1.c) r.1.n r.2) ∧ rows.Pairwise apartR := S.all _ (List.mem_of_getElem? hj)
/-- a nil row more -/
theorem Sep.rowsNil (S : Sep w0 w Γ) (j : Nat) (hj : Γ[j]? = some (.rowsD e size rows)) : Sep w0 w (Γ.set j (.rowsD e size (rows ++ [(⟨none, 0, 0⟩, [])]))) := by
  have h := S.rowsAt j hj
  refine S.put j hj _ (World.grownBy.refl w none) (fun k hk => by cases hk) ⟨fun r hr => ?_, ?_⟩ fun k hk => ?_
  · rcases List.mem_append.1 hr with hr | hr
    · exact h.1 r hr
    · rw [List.mem_singleton] at hr; subst hr; exact World.ownsRow_nil _ _ _ _
  · rw [List.pairwise_append]
    refine ⟨h.2, List.pairwise_singleton _ _, fun r _ s hs k _ hk2 => ?_⟩
    rw [List.mem_singleton] at hs; subst hs; cases hk2
  · obtain ⟨r, hr, hk⟩ := hk
    rcases List.mem_append.1 hr with hr | hr
    · exact .inl ⟨r, hr, hk⟩
    · rw [List.mem_singleton] at hr; subst hr; cases hk
/-- **append onto one of the rows** -/
theorem wpList_append_rows {ops : Array Oper} {rest : List Oper} {o : Oper} {a : Act} {Q : Exit → Act → World → Prop} (hgd : o.guard = none) (s x : Operand) (t : TypeId)
    (ho : o.op = .call { callee := .builtin .append, args := #[s, x], argTypes := #[t, t] })
    (i : TypeInfo) (z : Value) (bytes : Nat) (ht : P.underlying t = some (.slice e)) (hi : P.info? e = some i) (hz : i.zero = some z)
    (hsize : i.size = size) (hby : i.bytes = bytes) (hzs : z.cells.size = size) (hsz : 0 < size)
    (S : Sep w0 w Γ) (j : Nat) (hj : Γ[j]? = some (.rowsD e size rows)) (r : Nat) (q : Option Addr) (n cq : Nat) (xs : List Value) (hr : rows[r]? = some (⟨q, n, cq⟩, xs)) (hs : a.eval s = .slice q n cq)
    (A : Option Addr) (m c : Nat) (news : List Value) (hx : a.eval x = .slice A m c) (hrd : Rd w size A m news) (h1 : ∀ u ∈ news, u.oneCell' = true)
    (hbytes : (n + m) * bytes ≤ 140737488355328) (h63 : n + m ≤ 140737488355328)
    (h : ∀ q' c' w', Sep w0 w' (Γ.set j (.rowsD e size (rows.set r (⟨q', n + m, c'⟩, xs ++ news)))) → w.heap.size ≤ w'.heap.size → wpList P ops Q rest (a.put o.dst (.slice q' (n + m) c')) w') : wpList P ops Q (o :: rest) a w := by
  have hrows := S.rowsAt j hj
  have hmem := List.mem_of_getElem? hr
  have hown : w.ownsRow w0.heap.size e size (.slice q n cq) n xs := own_rebase (hrows.1 _ hmem) fun k hk => S.new _ (List.mem_of_getElem? hj) k ⟨_, hmem, hk⟩
  refine wpList_append_rd hgd s x t ho w0.heap.size e i z size bytes ht hi hz hsize hby hzs hsz q n cq xs hs hown A m c news hx hrd h1 hbytes h63 S.ext.size ?_
  intro q' c' w' ho' hg hat _
  have hr1 : r < rows.length := (List.getElem?_eq_some_iff.1 hr).1
  have hnew : ∀ k, blkOf q' = some k → blkOf q = some k ∨ k = w.heap.size := fun k hk => by
    rcases hat with h | h
    · exact .inl (h.symm.trans hk)
    · have : some w.heap.size = some k := h.symm.trans hk
      injection this with this
      exact .inr this.symm
  have hset : ∀ y ∈ rows.set r (⟨q', n + m, c'⟩, xs ++ news), y = (⟨q', n + m, c'⟩, xs ++ news) ∨ ∃ i, i ≠ r ∧ rows[i]? = some y := by
    intro y hy
    obtain ⟨i, hi, rfl⟩ := List.mem_iff_getElem.1 hy
    rw [List.length_set] at hi
    rw [List.getElem_set]
    by_cases e : r = i
    · left; rw [if_pos e]
    · right; rw [if_neg e]; exact ⟨i, fun h => e h.symm, List.getElem?_eq_getElem hi⟩
  have hap : ∀ (i : Nat) y, i ≠ r → rows[i]? = some y → ∀ k, blkOf y.1.p = some k → blkOf q ≠ some k := by
    intro i y hne hy k hk hq
    obtain ⟨hi1, rfl⟩ := List.getElem?_eq_some_iff.1 hy
    obtain ⟨hr2, hre⟩ := List.getElem?_eq_some_iff.1 hr
    rcases Nat.lt_or_gt_of_ne hne with h | h
    · have := List.pairwise_iff_getElem.1 hrows.2 i r hi1 hr2 h k hk
      rw [hre] at this; exact this hq
    · have := List.pairwise_iff_getElem.1 hrows.2 r i hr2 hi1 h k (by rw [hre]; exact hq)
      exact this hk
  refine h q' c' w' (S.put j hj _ hg (fun k hk => ⟨_, hmem, hk⟩) ⟨fun y hy => ?_, ?_⟩ fun k hk => ?_) hg.size
  · rcases hset y hy with rfl | ⟨i, hne, hi⟩
    · exact own_base ho' (Nat.zero_le _)
    · have hy1 := hrows.1 y (List.mem_of_getElem? hi)
      refine own_loc hy1 fun k hk => hg.block k (own_lt hy1 hk).2 fun e => hap i y hne hi k hk e.symm
  · rw [List.pairwise_iff_getElem]
    intro a b ha hb hab k hka hkb
    rw [List.length_set] at ha hb
    rw [List.getElem_set] at hka hkb
    have key : ∀ i (hi : i < rows.length), i ≠ r → blkOf q' = some k → blkOf (rows[i]).1.p = some k → False := by
      intro i hi hne h1 h2
      rcases hnew k h1 with h | h
      · exact hap i _ hne (List.getElem?_eq_getElem hi) k h2 h
      · have := (own_lt (hrows.1 _ (List.getElem_mem hi)) h2).2; omega
    by_cases e1 : r = a
    · rw [if_pos e1] at hka
      rw [if_neg (by omega)] at hkb
      exact key b hb (by omega) hka hkb
    · rw [if_neg e1] at hka
      by_cases e2 : r = b
      · rw [if_pos e2] at hkb
        exact key a ha (fun h => e1 h.symm) hkb hka
      · rw [if_neg e2] at hkb
        exact List.pairwise_iff_getElem.1 hrows.2 a b ha hb hab k hka hkb
  · obtain ⟨y, hy, hk⟩ := hk
    rcases hset y hy with rfl | ⟨i, _, hi⟩
    · rcases hnew k hk with h | h
      · exact .inl ⟨_, hmem, h⟩
      · exact .inr (by omega)
    · exact .inl ⟨y, List.mem_of_getElem? hi, hk⟩
end
end Go.Proofs.YtkekibnhmfmhmaaGreat
/- The program's Make of postings. -/
namespace Go.Proofs.YtkekibnhmfmhmaaGreat
open Go Go.RowKit
theorem zeroL (w : World) : (zeroValue 39).run Tryz.prog w = .ok (.slice none 0 0) w := by kernel_rfl
/-- what has been gathered, in memory -/
structure GS (w wr : World) (b g : Nat) (cs : Array Value) (O : List Occ) (A : List Po) (hs : List Hd) (q : Option Addr) (c : Nat) (f : ByteArray → Option Value) : Prop where
  len : hs.length = A.length
  gath : Gath O A
  some_ : ∀ r, r < A.length → f (nth A r).1 = some (nth hs r).v
  none_ : ∀ s, s ∉ A.map (·.1) → f s = none
  sep : Sep w wr [.rowsD 3 1 (rowsP A hs), .own 9 1 q A.length c (encS (A.map (·.1))), .mapT Tryz.prog 9 b O.length f, .blk g 112 cs]
theorem rowsP_set {A : List Po} {hs : List Hd} {r : Nat} {p : Po} {h : Hd} : rowsP (A.set r p) (hs.set r h) = (rowsP A hs).set r (h, encI p.2) := by
  unfold rowsP
  rw [List.map_set]
  apply List.ext_getElem?
  intro i
  simp only [List.zip, List.getElem?_zipWith, List.getElem?_set, List.length_zipWith]
  by_cases e : r = i
  · subst e
    by_cases h1 : r < hs.length <;> by_cases h2 : r < A.length <;> simp [h1, h2] <;> omega
  · simp [e]
theorem rowsP_get {A : List Po} {hs : List Hd} {r : Nat} (h : hs.length = A.length) (hr : r < A.length) : (rowsP A hs)[r]? = some (nth hs r, encI (nth A r).2) := by
  unfold rowsP
  rw [nth_eq (by omega), nth_eq hr, List.getElem?_eq_getElem (by simp; omega)]
  simp
theorem nth_set_eq {α : Type} [Inhabited α] {l : List α} {r : Nat} {x : α} (h : r < l.length) : nth (l.set r x) r = x := by rw [nth_eq (by simpa using h)]; simp
theorem nth_set_ne {α : Type} [Inhabited α] {l : List α} {r i : Nat} {x : α} (h : i ≠ r) (hi : i < l.length) : nth (l.set r x) i = nth l i := by rw [nth_eq (by simpa using hi), nth_eq hi, List.getElem_set_ne (fun e => h e.symm)]
/-- a word that is new -/
theorem GS.new {w wr : World} {b g : Nat} {cs : Array Value} {O : List Occ} {A : List Po} {hs : List Hd} {q : Option Addr} {c : Nat} {f : ByteArray → Option Value} (G : GS w wr b g cs O A hs q c f) {s : ByteArray} (hs' : s ∉ A.map (·.1)) {v : Int} {wn : World} {q1 q2 : Option Addr} {c1 c2 : Nat}
    (S : Sep w wn [.rowsD 3 1 ((rowsP A hs ++ [((⟨none, 0, 0⟩ : Hd), ([] : List Value))]).set A.length ((⟨q2, 1, c2⟩ : Hd), [Value.int .i64 v])), .own 9 1 q1 (A.length + 1) c1 (encS (A.map (·.1)) ++ encS [s]), .mapT Tryz.prog 9 b (O.length + 1) (upT f s (.slice q2 1 c2)), .blk g 112 cs]) :
    GS w wn b g cs (O ++ [(v, s)]) (A ++ [(s, [v])]) (hs ++ [⟨q2, 1, c2⟩]) q1 c1 (upT f s (.slice q2 1 c2)) := by
  have hlen : (rowsP A hs).length = A.length := by unfold rowsP; simp [G.len]
  have hrow : (rowsP A hs ++ [((⟨none, 0, 0⟩ : Hd), ([] : List Value))]).set A.length ((⟨q2, 1, c2⟩ : Hd), [Value.int .i64 v]) = rowsP (A ++ [(s, [v])]) (hs ++ [⟨q2, 1, c2⟩]) := by
    rw [rowsP_snoc _ _ _ _ G.len, List.set_append_right _ _ (by omega), hlen, Nat.sub_self]; rfl
  refine ⟨by simp [G.len], G.gath.new hs', fun r hr => ?_, fun t ht => ?_, ?_⟩
  · rw [List.length_append, List.length_singleton] at hr
    by_cases e : r < A.length
    · rw [nth_append_left _ _ _ e, nth_append_left _ _ _ (by rw [G.len]; exact e)]
      unfold upT
      rw [if_neg]
      · exact G.some_ r e
      · rintro he
        exact hs' (by rw [← he, nth_eq e]; exact List.mem_map_of_mem (List.getElem_mem _))
    · have e1 : r = A.length := by omega
      subst e1
      have a1 : nth (A ++ [(s, [v])]) A.length = (s, [v]) := nth_append_new _ _
      have a2 : nth (hs ++ [(⟨q2, 1, c2⟩ : Hd)]) A.length = ⟨q2, 1, c2⟩ := by rw [← G.len]; exact nth_append_new _ _
      rw [a1, a2]; unfold upT; simp [Hd.v]
  · rw [List.map_append, List.mem_append, not_or] at ht
    unfold upT
    rw [if_neg (by simpa using ht.2)]
    exact G.none_ t ht.1
  · rw [hrow, ← encS_append] at S
    simpa using S
/-- a word that was there -/
theorem GS.more {w wr : World} {b g : Nat} {cs : Array Value} {O : List Occ} {A : List Po} {hs : List Hd} {q : Option Addr} {c : Nat} {f : ByteArray → Option Value} (G : GS w wr b g cs O A hs q c f) {r : Nat} (hr : r < A.length) {v : Int} {wn : World} {q2 : Option Addr} {m2 c2 : Nat}
    (S : Sep w wn [.rowsD 3 1 ((rowsP A hs).set r ((⟨q2, m2, c2⟩ : Hd), encI (nth A r).2 ++ encI [v])), .own 9 1 q A.length c (encS (A.map (·.1))), .mapT Tryz.prog 9 b (O.length + 1) (upT f (nth A r).1 (.slice q2 m2 c2)), .blk g 112 cs]) :
    GS w wn b g cs (O ++ [(v, (nth A r).1)]) (A.set r ((nth A r).1, (nth A r).2 ++ [v])) (hs.set r ⟨q2, m2, c2⟩) q c (upT f (nth A r).1 (.slice q2 m2 c2)) := by
  have hmap : (A.set r ((nth A r).1, (nth A r).2 ++ [v])).map (·.1) = A.map (·.1) := by
    rw [List.map_set]
    have e : (nth A r).1 = (A.map (·.1))[r]'(by simpa using hr) := by rw [nth_eq hr, List.getElem_map]
    show (A.map (·.1)).set r (nth A r).1 = _
    rw [e, List.set_getElem_self]
  refine ⟨by simp [G.len], G.gath.more hr, fun i hi => ?_, fun t ht => ?_, ?_⟩
  · rw [List.length_set] at hi
    by_cases e : i = r
    · subst e
      rw [nth_set_eq hr, nth_set_eq (by rw [G.len]; exact hr)]
      unfold upT; simp [Hd.v]
    · rw [nth_set_ne e hi, nth_set_ne e (by rw [G.len]; exact hi)]
      unfold upT
      rw [if_neg]
      · exact G.some_ i hi
      · rw [nth_eq hi, nth_eq hr]
        intro he
        exact nodup_ne G.gath.nodup (i := i) (j := r) (by simpa using hi) (by simpa using hr) e (by simpa using he)
  · rw [hmap] at ht
    unfold upT
    rw [if_neg]
    · exact G.none_ t ht
    · rintro rfl
      exact ht (by rw [nth_eq hr]; exact List.mem_map_of_mem (List.getElem_mem _))
  · rw [hmap, rowsP_set, List.length_set, encI_append]
    simpa using S
theorem RdP.of_rows {w0 w : World} {Γ : List Pc} (S : Sep w0 w Γ) (j i : Nat) {q : Option Addr} {n c : Nat} {rows : List (Hd × List Value)} {F : List Hd} {L : List Po} (hj : Γ[j]? = some (.rowsD 3 1 rows)) (hi : Γ[i]? = some (.own 98 2 q n c (encPo L F))) (hl : F.length = L.length) (hr : ∀ a, a < L.length → (nth F a, encI (nth L a).2) ∈ rows) : RdP w q n F L := by
  have ho := S.own i hi
  have hr1 := Rd.of_own ho (own_small ho)
  have hn : n = L.length := by have := ho.1; rw [encPo_len L F hl] at this; omega
  refine ⟨hn, hr1.ptr, hr1.small, fun k hk => ?_, fun k hk => ?_, fun k hk => ?_⟩
  · rw [hr1.cells (k * 2) (by omega), (encPo_get L F k hl (by omega)).1]
  · rw [hr1.cells (k * 2 + 1) (by omega), (encPo_get L F k hl (by omega)).2]; rfl
  · have h1 := (S.rowsAt j hj).1 _ (hr k (by omega))
    exact Rd.of_own h1 (own_small h1)
theorem infT : (Tryz.prog.info? 9).map (fun i => (i.zero, i.size, i.bytes)) = some (some (.string ByteArray.empty), 1, 16) := by kernel_rfl
theorem infJ : (Tryz.prog.info? 3).map (fun i => (i.zero, i.size, i.bytes)) = some (some (.int .i64 0), 1, 8) := by kernel_rfl
theorem one_int (x : Int) : ∀ u ∈ [Value.int .i64 x], u.oneCell' = true := by intro u hu; simp at hu; subst hu; rfl
theorem one_str (x : ByteArray) : ∀ u ∈ [Value.string x], u.oneCell' = true := by intro u hu; simp at hu; subst hu; rfl
theorem MapT.size {P : Program} {k : TypeId} {b n : Nat} {f : ByteArray → Option Value} {w : World} (h : MapT P k b n f w) {s : ByteArray} {v : Value} (hf : f s = some v) : s.size ≤ 1000000 := by
  obtain ⟨D, _, _, h3⟩ := h
  exact (h3 s v hf).1
theorem isB_check {N : Int} {E : List (Int × Int)} {W : List (List ByteArray)} (h : isB N E W = true) : checkB N E W = true := by
  cases hc : checkB N E W with
  | true => rfl
  | false => rw [isB_chk hc] at h; cases h
/-- the row of a word -/
def hdOf (f : ByteArray → Option Value) (s : ByteArray) : Hd := match f s with | some (.slice p n c) => ⟨p, n, c⟩ | _ => ⟨none, 0, 0⟩
theorem hdOf_eq {f : ByteArray → Option Value} {s : ByteArray} {h : Hd} (e : f s = some h.v) : hdOf f s = h := by unfold hdOf; rw [e]; rfl
theorem GS.look {w wr : World} {b g : Nat} {cs : Array Value} {O : List Occ} {A : List Po} {hs : List Hd} {q : Option Addr} {c : Nat} {f : ByteArray → Option Value} (G : GS w wr b g cs O A hs q c f) {s : ByteArray} (h : s ∈ A.map (·.1)) :
    ∃ r, r < A.length ∧ (nth A r).1 = s ∧ f s = some (nth hs r).v ∧ (nth hs r).n = (plc O s).length ∧ 0 < (nth hs r).n ∧ (nth hs r).n ≤ O.length ∧ s.size ≤ 1000000 := by
  obtain ⟨r, hr, h1, h2⟩ := G.gath.find h
  have hf := G.some_ r hr
  rw [h1] at hf
  have hrow := (G.sep.rowsAt 0 rfl).1 _ (List.mem_of_getElem? (rowsP_get G.len hr))
  have hl : (plc O s).length = (nth hs r).n * 1 := by have h3 := hrow.1; rw [encI_len, h2] at h3; exact h3
  have hp : 0 < (plc O s).length := by
    refine List.length_pos_iff.2 fun e => ?_
    obtain ⟨x, hx, e2⟩ := (G.gath.keys s).1 h
    exact plc_nil.1 e x hx e2
  have := plc_len O s
  exact ⟨r, hr, h1, hf, by omega, by omega, by omega, (G.sep.mapT 2 rfl).size hf⟩
end Go.Proofs.YtkekibnhmfmhmaaGreat
namespace Go.Proofs.YtkekibnhmfmhmaaGreat
open Go Go.RowKit
end Go.Proofs.YtkekibnhmfmhmaaGreat
/- The reference's Make of postings. -/
namespace Go.Proofs.YtkekibnhmfmhmaaGreat
open Go Go.RowKit
theorem flatW_len {W : List (List ByteArray)} (h : ∀ l ∈ W, l.length ≤ 8) : ∀ k, (W.take k).flatten.length ≤ 8 * k
  | 0 => by simp
  | k + 1 => by
    by_cases hk : k < W.length
    · have ih := flatW_len h k
      rw [take_succ_nth W k hk, List.flatten_append, List.length_append]
      have h2 := h (nth W k) (by rw [nth_eq hk]; exact List.getElem_mem _)
      have h3 : ([nth W k] : List (List ByteArray)).flatten.length = (nth W k).length := by simp
      omega
    · have ih := flatW_len h k
      rw [List.take_of_length_le (by omega)] at ih ⊢; omega
theorem flatW_step {W : List (List ByteArray)} {k : Nat} (h : k < W.length) : (W.take (k + 1)).flatten = (W.take k).flatten ++ nth W k := by
  rw [take_succ_nth W k h, List.flatten_append]; simp
end Go.Proofs.YtkekibnhmfmhmaaGreat
/- The document's example postings. -/
namespace Go.Proofs.YtkekibnhmfmhmaaGreat
open Go Go.RowKit
abbrev tA : ByteArray := ⟨#[97]⟩
abbrev tB : ByteArray := ⟨#[98]⟩
abbrev tC : ByteArray := ⟨#[99]⟩
theorem ab : sLess tA tB = true := by unfold sLess; rw [ByteArray.toList_eq, ByteArray.toList_eq]; rfl
theorem ba : sLess tB tA = false := by unfold sLess; rw [ByteArray.toList_eq, ByteArray.toList_eq]; rfl
theorem aa : sLess tA tA = false := sLess_irrefl _
theorem bb : sLess tB tB = false := sLess_irrefl _
theorem anb : tA ≠ tB := by decide
def wantL : List Po := [(tA, [0]), (tB, [0, 1])]
def exWW : List (List ByteArray) := [[tA, tB], [tB]]
theorem exS5 : putAll sLess exWW.flatten = [tA, tB] := by
  show putAll sLess [tA, tB, tB] = _
  unfold putAll
  rw [List.foldl_cons, List.foldl_cons, List.foldl_cons, List.foldl_nil, putL_nil]
  simp only [putL_cons, putL_nil, ab, bb, anb, if_true, if_false, Bool.false_eq_true]
theorem exMP : makeP exWW = wantL := by
  unfold makeP
  rw [exS5]
  rfl
theorem exC5 : checkB 2 [] exWW = true := by decide
theorem exI5 : isB 2 [] exWW = true := by
  unfold isB; rw [exC5]
  have h1 : riseB lessE [] = true := by decide
  have h2 : riseB sLess [tA, tB] = true := by simp [riseB, riseAt, nth, ab]
  have h3 : riseB sLess [tB] = true := by simp [riseB]
  rw [h1]; simp [exWW, h2, h3]
theorem exAl1 : allS wantL [tA, tB] = [0] := by decide
theorem exAn1 : anyS wantL [tA, tB] = [0, 1] := by decide
theorem exAl2 : allS wantL [tC] = [] := by decide
theorem exCk2 : checkP 2 wantL = true := by
  have h1 : wordB tA = true := by decide
  have h2 : wordB tB = true := by decide
  have h3 : riseP 2 [0] = true := by decide
  have h4 : riseP 2 [0, 1] = true := by decide
  simp [checkP, okP, wantL, nth, List.range_succ, h1, h2, h3, h4, ab]
theorem exCk1 : checkP 1 wantL = false := by
  have h4 : riseP 1 [0, 1] = false := by decide
  simp [checkP, okP, wantL, nth, List.range_succ, h4]
theorem exOk : PoOk wantL := by
  intro p hp
  simp [wantL] at hp
  rcases hp with rfl | rfl
  · exact ⟨by decide, fun x hx => by simp at hx; subst hx; exact I64.of (by omega) (by omega)⟩
  · refine ⟨by decide, fun x hx => ?_⟩
    simp at hx
    rcases hx with rfl | rfl <;> exact I64.of (by omega) (by omega)
theorem exSz : PoSz wantL := by
  intro p hp
  simp [wantL] at hp
  rcases hp with rfl | rfl <;> decide
/-- the example's rows where they lie -/
def hsWant (b : Nat) : List Hd := [⟨some ⟨b, 0, none⟩, 1, 1⟩, ⟨some ⟨b + 1, 0, none⟩, 2, 2⟩]
theorem rdWant {W : World} {b : Nat} {t1 t2 t3 : TypeId} (h1 : Blk W b t1 #[.int .i64 0]) (h2 : Blk W (b + 1) t2 #[.int .i64 0, .int .i64 1]) (h3 : Blk W (b + 1 + 1) t3 #[.string tA, .slice (some ⟨b, 0, none⟩) 1 1, .string tB, .slice (some ⟨b + 1, 0, none⟩) 2 2]) :
    RdP W (some ⟨b + 1 + 1, 0, none⟩) 2 (hsWant b) wantL := by
  have h := h3.rd (size := 2) (n := 2) (xs := [.string tA, .slice (some ⟨b, 0, none⟩) 1 1, .string tB, .slice (some ⟨b + 1, 0, none⟩) 2 2]) rfl rfl (by decide)
  refine ⟨rfl, h.ptr, h.small, fun k hk => ?_, fun k hk => ?_, fun k hk => ?_⟩
  · have : k = 0 ∨ k = 1 := by omega
    rcases this with rfl | rfl <;> exact h.cells _ (by omega)
  · have : k = 0 ∨ k = 1 := by omega
    rcases this with rfl | rfl <;> exact h.cells _ (by omega)
  · have : k = 0 ∨ k = 1 := by omega
    rcases this with rfl | rfl
    · exact h1.rd rfl rfl (by show (1:Nat) ≤ _; omega)
    · exact h2.rd rfl rfl (by show (2:Nat) ≤ _; omega)
theorem exWant (w : World) : RdP (((w.alloc (.cells #[.int .i64 0] 3)).alloc (.cells #[.int .i64 0, .int .i64 1] 3)).alloc (.cells #[.string ⟨#[97]⟩, .slice (some ⟨w.heap.size, 0, none⟩) 1 1, .string ⟨#[98]⟩, .slice (some ⟨w.heap.size + 1, 0, none⟩) 2 2] 98)) (some ⟨w.heap.size + 1 + 1, 0, none⟩) 2 (hsWant w.heap.size) wantL ∧ Ext w (((w.alloc (.cells #[.int .i64 0] 3)).alloc (.cells #[.int .i64 0, .int .i64 1] 3)).alloc (.cells #[.string ⟨#[97]⟩, .slice (some ⟨w.heap.size, 0, none⟩) 1 1, .string ⟨#[98]⟩, .slice (some ⟨w.heap.size + 1, 0, none⟩) 2 2] 98)) ∧ (((w.alloc (.cells #[.int .i64 0] 3)).alloc (.cells #[.int .i64 0, .int .i64 1] 3)).alloc (.cells #[.string ⟨#[97]⟩, .slice (some ⟨w.heap.size, 0, none⟩) 1 1, .string ⟨#[98]⟩, .slice (some ⟨w.heap.size + 1, 0, none⟩) 2 2] 98)).heap.size = w.heap.size + 1 + 1 + 1 := by
  obtain ⟨a1, a2, a3, a4⟩ := alloc3B w #[.int .i64 0] #[.int .i64 0, .int .i64 1] #[.string ⟨#[97]⟩, .slice (some ⟨w.heap.size, 0, none⟩) 1 1, .string ⟨#[98]⟩, .slice (some ⟨w.heap.size + 1, 0, none⟩) 2 2] 3 3 98
  exact ⟨rdWant a1 a2 a3, a4, by simp⟩
theorem exAllA (w : World) (p : Option Addr) (hs : List Hd) (h : RdP w p 2 hs wantL) : Calls Tryz.prog 40 #[.slice p 2 2, .slice (some ⟨w.heap.size, 0, none⟩) 2 2] (w.alloc (.cells #[.string ⟨#[97]⟩, .string ⟨#[98]⟩] 9)) fun e w' => ∃ q c, e = .returned (.tuple #[.slice q 1 c, .int .i64 0]) ∧ Rd w' 1 q 1 (encI [0]) ∧ Ext w w' := by
  have he : Ext w (w.alloc (.cells #[.string ⟨#[97]⟩, .string ⟨#[98]⟩] 9)) := Ext.alloc (Below.refl _ _) _
  refine (AllG p 2 2 hs wantL _ 2 2 [tA, tB] _ (h.ext he) exOk (Rd.new w 9 [.string ⟨#[97]⟩, .string ⟨#[98]⟩] 2 1 rfl (by decide)) (by decide) (by decide) (by decide)).mono ?_
  rintro e w' ⟨q, c, rfl, S⟩
  rw [exAl1] at S ⊢
  exact ⟨q, c, rfl, S.rd 0 rfl (by decide), Ext.trans he S.ext⟩
theorem exAllC (w : World) (p : Option Addr) (hs : List Hd) (h : RdP w p 2 hs wantL) : Calls Tryz.prog 40 #[.slice p 2 2, .slice (some ⟨w.heap.size, 0, none⟩) 1 1] (w.alloc (.cells #[.string ⟨#[99]⟩] 9)) fun e w' => ∃ q c, e = .returned (.tuple #[.slice q 0 c, .int .i64 0]) ∧ Ext w w' := by
  have he : Ext w (w.alloc (.cells #[.string ⟨#[99]⟩] 9)) := Ext.alloc (Below.refl _ _) _
  refine (AllG p 2 2 hs wantL _ 1 1 [tC] _ (h.ext he) exOk (Rd.new w 9 [.string ⟨#[99]⟩] 1 1 rfl (by decide)) (by decide) (by decide) (by decide)).mono ?_
  rintro e w' ⟨q, c, rfl, S⟩
  rw [exAl2] at S ⊢
  exact ⟨q, c, rfl, Ext.trans he S.ext⟩
theorem exInts (w : World) (q : Option Addr) (n c : Nat) (l : List Int) (h : Rd w 1 q n (encI l)) (hn : n ≤ 100) : Calls Tryz.prog 38 #[.slice q n c, .slice (some ⟨w.heap.size, 0, none⟩) n n] (w.alloc (.cells (encI l).toArray 3)) fun e w' => e = .returned (.bool true) ∧ Ext w w' := by
  have he : Ext w (w.alloc (.cells (encI l).toArray 3)) := Ext.alloc (Below.refl _ _) _
  refine (Ints01 q _ n n c n l l _ (h.ext he) (Rd.new w 3 (encI l) n 1 h.len (by omega))).mono ?_
  rintro e w' ⟨rfl, h1⟩
  exact ⟨by simp, Ext.trans he h1⟩
theorem exInts0 (w : World) (q : Option Addr) (c : Nat) (h : Rd w 1 q 1 (encI [0])) : Calls Tryz.prog 38 #[.slice q 1 c, .slice (some ⟨w.heap.size, 0, none⟩) 1 1] (w.alloc (.cells #[.int .i64 0] 3)) fun e w' => e = .returned (.bool true) ∧ Ext w w' := exInts w q 1 c [0] h (by decide)
theorem exInts01 (w : World) (q : Option Addr) (c : Nat) (h : Rd w 1 q 2 (encI [0, 1])) : Calls Tryz.prog 38 #[.slice q 2 c, .slice (some ⟨w.heap.size, 0, none⟩) 2 2] (w.alloc (.cells #[.int .i64 0, .int .i64 1] 3)) fun e w' => e = .returned (.bool true) ∧ Ext w w' := exInts w q 2 c [0, 1] h (by decide)
theorem exAllW (w : World) : Calls Tryz.prog 40 #[.slice (some ⟨w.heap.size + 1 + 1, 0, none⟩) 2 2, .slice (some ⟨w.heap.size + 1 + 1 + 1, 0, none⟩) 2 2] ((((w.alloc (.cells #[.int .i64 0] 3)).alloc (.cells #[.int .i64 0, .int .i64 1] 3)).alloc (.cells #[.string ⟨#[97]⟩, .slice (some ⟨w.heap.size, 0, none⟩) 1 1, .string ⟨#[98]⟩, .slice (some ⟨w.heap.size + 1, 0, none⟩) 2 2] 98)).alloc (.cells #[.string ⟨#[97]⟩, .string ⟨#[98]⟩] 9)) fun e w' => ∃ q c, e = .returned (.tuple #[.slice q 1 c, .int .i64 0]) ∧ Rd w' 1 q 1 (encI [0]) ∧ RdP w' (some ⟨w.heap.size + 1 + 1, 0, none⟩) 2 (hsWant w.heap.size) wantL ∧ Ext w w' := by
  obtain ⟨h1, h2, h3⟩ := exWant w
  generalize (((w.alloc (.cells #[.int .i64 0] 3)).alloc (.cells #[.int .i64 0, .int .i64 1] 3)).alloc (.cells #[.string ⟨#[97]⟩, .slice (some ⟨w.heap.size, 0, none⟩) 1 1, .string ⟨#[98]⟩, .slice (some ⟨w.heap.size + 1, 0, none⟩) 2 2] 98)) = X at *
  rw [← h3]
  exact (exAllA X _ _ h1).mono fun e w' ⟨q, c, e1, e2, e3⟩ => ⟨q, c, e1, e2, h1.ext e3, Ext.trans h2 e3⟩
end Go.Proofs.YtkekibnhmfmhmaaGreat
/- What All, Any and Both say, whatever the order of words; what is not looked at bounds what is. No program in sight. -/
namespace Go.Proofs.YtkekibnhmfmhmaaGreat
open Go Go.RowKit
theorem nth0_mem {α : Type} [Inhabited α] {ws : List α} (h : 0 < ws.length) : nth ws 0 ∈ ws := by rw [nth_eq h]; exact List.getElem_mem _
theorem allS_rises (L : List Po) (ws : List ByteArray) : Rises ltI (allS L ws) := putAll_rises stoI _
theorem anyS_rises (L : List Po) (ws : List ByteArray) : Rises ltI (anyS L ws) := putAll_rises stoI _
theorem bothS_rises (a b : List Int) : Rises ltI (bothS a b) := putAll_rises stoI _
theorem allS_iff {L : List Po} {ws : List ByteArray} {x : Int} (h : 0 < ws.length) : x ∈ allS L ws ↔ ∀ u ∈ ws, x ∈ findL L u := by
  unfold allS
  rw [putAll_mem stoI, List.mem_filter, List.all_eq_true]
  constructor
  · rintro ⟨_, h2⟩ u hu; simpa using h2 u hu
  · intro h2; exact ⟨h2 _ (nth0_mem h), fun u hu => by simpa using h2 u hu⟩
theorem anyS_iff {L : List Po} {ws : List ByteArray} {x : Int} : x ∈ anyS L ws ↔ ∃ u ∈ ws, x ∈ findL L u := by
  unfold anyS; rw [putAll_mem stoI, List.mem_flatMap]
theorem bothS_iff {a b : List Int} {x : Int} : x ∈ bothS a b ↔ x ∈ a ∧ x ∈ b := by
  unfold bothS; rw [putAll_mem stoI, List.mem_filter, inB_iff]
theorem allS_same {L : List Po} {ws vs : List ByteArray} (h : 0 < ws.length) (k : 0 < vs.length) (hm : ∀ u, u ∈ ws ↔ u ∈ vs) : allS L ws = allS L vs :=
  rises_uniq stoI _ _ (allS_rises _ _) (allS_rises _ _) fun x => by rw [allS_iff h, allS_iff k]; simp only [hm]
theorem anyS_same {L : List Po} {ws vs : List ByteArray} (hm : ∀ u, u ∈ ws ↔ u ∈ vs) : anyS L ws = anyS L vs :=
  rises_uniq stoI _ _ (anyS_rises _ _) (anyS_rises _ _) fun x => by rw [anyS_iff, anyS_iff]; simp only [hm]
theorem bothS_comm (a b : List Int) : bothS a b = bothS b a :=
  rises_uniq stoI _ _ (bothS_rises _ _) (bothS_rises _ _) fun x => by rw [bothS_iff, bothS_iff, and_comm]
theorem bothS_self {l : List Int} (h : Rises ltI l) : bothS l l = l :=
  rises_uniq stoI _ _ (bothS_rises _ _) h fun x => by rw [bothS_iff, and_self]
theorem risesP_nth {l : List Int} (h : Rises ltI l) {k : Nat} (hk : k + 1 < l.length) : nth l k < nth l (k + 1) := by
  rw [nth_eq (by omega), nth_eq hk]
  have := List.pairwise_iff_getElem.1 h k (k + 1) (by omega) hk (by omega)
  simpa [ltI] using this
theorem bothS_len (a b : List Int) : (bothS a b).length ≤ a.length := Nat.le_trans (putAll_len _ _) (List.length_filter_le _ _)
theorem allS_len {L : List Po} (hok : PoOk L) (ws : List ByteArray) : (allS L ws).length ≤ 1000 := by
  rw [← allK_end (Nat.le_refl _)]; exact allK_len hok ws _
theorem anyS_len {L : List Po} (hok : PoOk L) (ws : List ByteArray) : (anyS L ws).length ≤ 1000 * ws.length := Nat.le_trans (putAll_len _ _) (flat_len hok ws)
theorem bigP_facts {L : List Po} (h : bigP L = false) : L.length ≤ 40 ∧ ∀ p ∈ L, p.1.size ≤ 60 ∧ p.2.length ≤ 60 := by
  unfold bigP at h
  rw [Bool.or_eq_false_iff, Bool.and_eq_false_iff] at h
  have h1 : L.length ≤ 40 := by simpa using h.2
  refine ⟨h1, fun p hp => ?_⟩
  have h2 : L.any badPo = false := by
    rcases h.1 with h3 | h3
    · simp at h3; omega
    · exact h3
  have := List.any_eq_false.1 h2 p hp
  unfold badPo at this
  simp at this
  exact this
theorem few_facts {ws : List ByteArray} (h : fewB ws = true) : ws.length ≤ 12 ∧ ∀ s ∈ ws, s.size ≤ 60 := by
  unfold fewB at h
  rw [Bool.and_eq_true, List.all_eq_true] at h
  exact ⟨by simpa using h.2, fun s hs => by simpa using h.1 s hs⟩
theorem poOk_of {L : List Po} (h : bigP L = false) (hI : ∀ q ∈ L, ∀ x ∈ q.2, I64 x) : PoOk L := fun p hp => ⟨by have := ((bigP_facts h).2 p hp).2; omega, hI p hp⟩
theorem poSz_of {L : List Po} (h : bigP L = false) : PoSz L := fun p hp => by have := ((bigP_facts h).2 p hp).1; omega
/-- the words turned round, the first one once more -/
theorem back_mem {ws : List ByteArray} (h : 0 < ws.length) (u : ByteArray) : u ∈ ws ↔ u ∈ ws.reverse ++ [nth ws 0] := by
  rw [List.mem_append, List.mem_reverse, List.mem_singleton]
  exact ⟨.inl, fun h1 => h1.elim id fun e => e ▸ nth0_mem h⟩
theorem more_all {L : List Po} {ws : List ByteArray} {u : ByteArray} (h : 0 < ws.length) {x : Int} (hx : x ∈ allS L (ws ++ [u])) : x ∈ allS L ws := by
  rw [allS_iff (by simp)] at hx
  rw [allS_iff h]
  exact fun v hv => hx v (List.mem_append_left _ hv)
theorem more_any {L : List Po} {ws : List ByteArray} {u : ByteArray} {x : Int} (hx : x ∈ anyS L ws) : x ∈ anyS L (ws ++ [u]) := by
  rw [anyS_iff] at hx ⊢
  obtain ⟨v, hv, h⟩ := hx
  exact ⟨v, List.mem_append_left _ hv, h⟩
theorem all_any {L : List Po} {ws : List ByteArray} (h : 0 < ws.length) {x : Int} (hx : x ∈ allS L ws) : x ∈ anyS L ws := by
  rw [allS_iff h] at hx
  rw [anyS_iff]
  exact ⟨_, nth0_mem h, hx _ (nth0_mem h)⟩
theorem nthP_mem {α : Type} [Inhabited α] {l : List α} {k : Nat} (h : k < l.length) : nth l k ∈ l := by rw [nth_eq h]; exact List.getElem_mem _
theorem inB_true {l : List Int} {x : Int} (h : x ∈ l) : inB l x = true := (inB_iff l x).2 h
theorem inB_both {a b : List Int} {x : Int} (h : x ∈ a) : inB b x = inB (bothS a b) x := by
  rw [Bool.eq_iff_iff, inB_iff, inB_iff, bothS_iff]; exact ⟨fun k => ⟨h, k⟩, fun k => k.2⟩
theorem take_succ_rev {α : Type} [Inhabited α] (l : List α) {k : Nat} (h : k < l.length) : l.reverse.take (k + 1) = l.reverse.take k ++ [nth l (l.length - 1 - k)] := by
  rw [take_succ_nth _ k (by simpa using h)]
  congr 2
  rw [nth_eq (by simpa using h), nth_eq (by omega), List.getElem_reverse]
theorem IntsT (p q : Option Addr) (n m c d : Nat) (A : List Int) (w : World) (h1 : Rd w 1 p n (encI A)) (h2 : Rd w 1 q m (encI A)) : Calls Tryz.prog 38 #[.slice p n c, .slice q m d] w fun e w' => e = .returned (.bool true) ∧ Ext w w' :=
  (Ints01 p q n m c d A A w h1 h2).mono fun e w' ⟨h3, h4⟩ => ⟨by rw [h3]; simp, h4⟩
end Go.Proofs.YtkekibnhmfmhmaaGreat
/- The reference's Check of postings. -/
namespace Go.Proofs.YtkekibnhmfmhmaaGreat
open Go Go.RowKit Go.Maps
theorem WordR (s : ByteArray) (w : World) (hs : s.size ≤ 140737488355328) : Calls Tryz.prog 65 #[.string s] w fun e w' => e = .returned (.bool (wordB s)) ∧ Ext w w' :=
  (Word02 s w hs).mono fun _ _ ⟨h, hw⟩ => ⟨h, by subst hw; exact Below.refl _ _⟩
end Go.Proofs.YtkekibnhmfmhmaaGreat
/- The law PostingTells: postings are right, or not, and tell just these places of words. -/
namespace Go.Proofs.YtkekibnhmfmhmaaGreat
open Go Go.RowKit
def allX (L : List Po) (ws : List ByteArray) : List Int := if ws.length = 0 then [] else allS L ws
def anyX (L : List Po) (ws : List ByteArray) : List Int := if ws.length = 0 then [] else anyS L ws
def codeX (ws : List ByteArray) : Int := if ws.length = 0 then 1 else 0
theorem codeX_0 {ws : List ByteArray} (h : ws.length = 0) : codeX ws = 1 := by unfold codeX; rw [if_pos h]
theorem codeX_1 {ws : List ByteArray} (h : 0 < ws.length) : codeX ws = 0 := by unfold codeX; rw [if_neg (by omega)]
theorem allX_0 (L : List Po) {ws : List ByteArray} (h : ws.length = 0) : allX L ws = [] := by unfold allX; rw [if_pos h]
theorem allX_1 (L : List Po) {ws : List ByteArray} (h : 0 < ws.length) : allX L ws = allS L ws := by unfold allX; rw [if_neg (by omega)]
theorem anyX_0 (L : List Po) {ws : List ByteArray} (h : ws.length = 0) : anyX L ws = [] := by unfold anyX; rw [if_pos h]
theorem anyX_1 (L : List Po) {ws : List ByteArray} (h : 0 < ws.length) : anyX L ws = anyS L ws := by unfold anyX; rw [if_neg (by omega)]
theorem allX_len {L : List Po} (hok : PoOk L) (ws : List ByteArray) : (allX L ws).length ≤ 1000 := by
  unfold allX; split
  · simp
  · exact allS_len hok ws
theorem anyX_len {L : List Po} (hok : PoOk L) (ws : List ByteArray) : (anyX L ws).length ≤ 1000 * ws.length := by
  unfold anyX; split
  · simp
  · exact anyS_len hok ws
theorem AllGx (p : Option Addr) (np cp : Nat) (hs : List Hd) (L : List Po) (pr : Option Addr) (nr cr : Nat) (ws : List ByteArray) (w : World) (hL : RdP w p np hs L) (hok : PoOk L) (hR : Rd w 1 pr nr (encS ws)) (hcr : nr ≤ cr) (hn : nr ≤ 100) : Calls Tryz.prog 40 #[.slice p np cp, .slice pr nr cr] w fun e w' => ∃ q c, e = .returned (.tuple #[.slice q (allX L ws).length c, .int .i64 (codeX ws)]) ∧ Sep w w' [.own 3 1 q (allX L ws).length c (encI (allX L ws))] := by
  have l1 := hR.nS
  rcases Nat.eq_zero_or_pos nr with h0 | h0
  · subst h0
    rw [codeX_0 l1.symm, allX_0 L l1.symm]
    exact (AllGn p np cp pr cr w).mono fun e w' ⟨h1, h2⟩ => ⟨none, 0, h1, ((Sep.start w).call h2).nilrow _ _⟩
  · rw [codeX_1 (by omega), allX_1 L (by omega)]
    exact AllG p np cp hs L pr nr cr ws w hL hok hR hcr h0 hn
theorem All05x (p : Option Addr) (np cp : Nat) (hs : List Hd) (L : List Po) (pr : Option Addr) (nr cr : Nat) (ws : List ByteArray) (w : World) (hL : RdP w p np hs L) (hok : PoOk L) (hR : Rd w 1 pr nr (encS ws)) (hn : nr ≤ 100) : Calls Tryz.prog 71 #[.slice p np cp, .slice pr nr cr] w fun e w' => ∃ q c, e = .returned (.tuple #[.slice q (allX L ws).length c, .int .i64 (codeX ws)]) ∧ Sep w w' [.own 3 1 q (allX L ws).length c (encI (allX L ws))] := by
  have l1 := hR.nS
  rcases Nat.eq_zero_or_pos nr with h0 | h0
  · subst h0
    rw [codeX_0 l1.symm, allX_0 L l1.symm]
    exact (All05n p np cp pr cr w).mono fun e w' ⟨h1, h2⟩ => ⟨none, 0, h1, ((Sep.start w).call h2).nilrow _ _⟩
  · rw [codeX_1 (by omega), allX_1 L (by omega)]
    exact All05 p np cp hs L pr nr cr ws w hL hok hR h0 hn
end Go.Proofs.YtkekibnhmfmhmaaGreat
/- Chapter 18: the hits of a query of the kind 3 (the program's hits). -/
namespace Go.Proofs.YtkekibnhmfmhmaaGreat
open Go Go.RowKit
def nearS (l : List Sq) (P : List Int) (most : Int) : List (Int × Int) := firstN (hitS l P) most
set_option maxRecDepth 100000 in
set_option maxHeartbeats 8000000 in
theorem HitsG (k f t : Int) (pw : Option Addr) (nw cw : Nat) (ws : List ByteArray) (rad most : Int) (pp : Option Addr) (np cp : Nat) (hs : List Hd) (L : List Po) (p : Option Addr) (n c : Nat) (l : List Sq) (w : World) (hL : RdP w pp np hs L) (hok : PoOk L) (hw : Rd w 1 pw nw (encS ws)) (hcw : nw ≤ cw) (hnw : nw ≤ 100) (hl : Rd w 4 p n (encQ l)) (hn : n ≤ 1000) :
    Calls Tryz.prog 50 #[.agg #[.int .i64 k, .int .i64 f, .int .i64 t, .slice pw nw cw, .int .i64 rad, .int .i64 most], .slice pp np cp, .slice p n c] w fun e w' => ∃ q c', e = .returned (.agg #[.bool (decide (0 < (nearS l (allX L ws) most).length)), .int .i64 0, .slice q (nearS l (allX L ws) most).length c']) ∧ Sep w w' [.own 61 2 q (nearS l (allX L ws) most).length c' (encE (nearS l (allX L ws) most))] := by
  obtain ⟨i0, hi0, hz0, hz1, hz2⟩ := info_parts infAh
  have p1 := hl.ptr
  have n1 := hl.small
  have L1 := Lib.hid hl.nQ
  have LW := hw.nS
  have S0 := Lib.hid (((Sep.start w).al #[.int .i64 k, .int .i64 f, .int .i64 t, .slice pw nw cw, .int .i64 rad, .int .i64 most] 24 w.heap.size rfl).al #[.bool false, .int .i64 0, .slice none 0 0] 33 (w.heap.size + 1) (by simp))
  have HA := Lib.hid (fun W (h : Ext w W) => AllGx pp np cp hs L pw nw cw ws W (hL.ext h) hok (hw.ext h) hcw hnw)
  have HPL := Lib.hid (allX_len hok ws)
  have HL := Lib.hid hl
  by_cases h0 : ws.length = 0
  · have HF : Hid (nearS l (allX L ws) most = []) := by
      unfold Hid nearS
      rw [allX_0 L h0]
      have : hitS l [] = [] := by unfold hitS; simp
      rw [this]
      have := (firstN_len [] most).1
      exact List.eq_nil_of_length_eq_zero (by simpa using this)
    rw [codeX_0 h0] at HA
    rw [HF.out]
    clear hl hw hL hok h0 LW HF
    generalize allX L ws = P at *
    go_enter Tryz.func50, Tryz.ntmps50
    go_wp2_with (go_at_call 40; go_must (refine (HA.out _ S0.out.ext).mono ?_; rintro e w1 ⟨q1, c1, rfl, Z⟩; have S1 := Lib.hid (S0.out.comp Z); clear Z; have b0 := (S1.out.blk 1 rfl).cell 0; have b1 := (S1.out.blk 1 rfl).cell 1; have b2 := (S1.out.blk 1 rfl).cell 2; have bz := (S1.out.blk 1 rfl).lt; have f0 := (S1.out.blk 1 rfl).frozen 0; have f1 := (S1.out.blk 1 rfl).frozen 1; have f2 := (S1.out.blk 1 rfl).frozen 2))
    have S9 := Lib.hid (((S1.out.set 1 rfl 0 (.bool false)).set 1 rfl 1 (.int .i64 0)).set 1 rfl 2 (.slice none 0 0))
    have x0 := (S9.out.blk 1 rfl).cell 0
    have x1 := (S9.out.blk 1 rfl).cell 1
    have x2 := (S9.out.blk 1 rfl).cell 2
    exact bodyPost_ret (v := .agg #[.bool false, .int .i64 0, .slice none 0 0]) (by simp [results, Tryz.results50, go_sem, x0, x1, x2, Tryz.sizeOf33, Tryz.isAgg33]) rfl ⟨none, 0, rfl, (S9.out.nilrow _ _).pick [0] (by decide) rfl⟩
  · rw [codeX_1 (by omega)] at HA
    clear hl hw hL hok h0 LW
    unfold nearS
    generalize allX L ws = P at *
    obtain ⟨F, hF⟩ : ∃ F, firstN (hitS l P) most = F := ⟨_, rfl⟩
    rw [hF]
    have HFI := Lib.hid hF
    clear hF
    go_enter Tryz.func50, Tryz.ntmps50
    go_wp2_with (go_at_call 40; go_must (refine (HA.out _ S0.out.ext).mono ?_; rintro e w1 ⟨q1, c1, rfl, Z⟩; have S1 := Lib.hid (S0.out.comp Z); clear Z))
    have S3 := Lib.hid (S1.out.nilrow 61 2 : Sep w w1 [.own 61 2 none 0 0 [], .own 3 1 q1 P.length c1 (encI P), .blk (w.heap.size + 1) 33 #[.bool false, .int .i64 0, .slice none 0 0], .blk w.heap.size 24 #[.int .i64 k, .int .i64 f, .int .i64 t, .slice pw nw cw, .int .i64 rad, .int .i64 most]])
    clear S1 S0 HA
    go_loopw [9, 11, 24] (fun v _ i wr => ∃ (j : Nat) (q : Option Addr) (m d : Nat), j ≤ n ∧ i = .int .i64 j ∧ v = .slice q m d ∧ m ≤ j ∧ Sep w wr [.own 61 2 q m d (encE (hitS (l.take j) P)), .own 3 1 q1 P.length c1 (encI P), .blk (w.heap.size + 1) 33 #[.bool false, .int .i64 0, .slice none 0 0], .blk w.heap.size 24 #[.int .i64 k, .int .i64 f, .int .i64 t, .slice pw nw cw, .int .i64 rad, .int .i64 most]]) (fun _ _ i _ => n - (intOf i).toNat)
    case atStart => exact ⟨0, none, 0, 0, Nat.zero_le _, rfl, rfl, Nat.le_refl _, S3.out⟩
    case round =>
      clear S3
      obtain ⟨j, q, m, d, hj, rfl, rfl, hm, S⟩ := hrel
      by_cases hlt : j < n
      · obtain ⟨g1, g2, g3, g4⟩ := (HL.out.ext S.ext).cQ hlt
        have HT := Lib.hid (take_succ_nth l j (by rw [← L1.out]; exact hlt))
        have d1 : (0:Int) ≤ j := by omega
        have d2 : (j:Int) < n := by omega
        have SH := Lib.hid S; clear S
        generalize nth l j = x at *
        have HS := Lib.hid (hitS_snoc (l.take j) P x)
        rw [← HT.out] at HS
        have SX := Lib.hid (SH.out.al #[.int .i64 x.s, .int .i64 x.r, .int .i64 x.v, .int .i64 x.d] 45 wr.heap.size rfl)
        have HCO := Lib.hid (ContI q1 P.length c1 P x.v _ (SX.out.rdx 2 rfl))
        have HCN : Hid (inB P x.v = P.contains x.v) := by unfold Hid; rw [Bool.eq_iff_iff, inB_iff]; simp
        by_cases hr : x.r = 0
        · have e1 : (x.r == 0) = true := by simpa using hr
          rw [e1, Bool.true_and, ← HCN.out] at HS
          cases hin : inB P x.v with
          | true =>
            rw [hin] at HCO HS
            have HS2 : Hid (hitS (l.take (j + 1)) P = hitS (l.take j) P ++ [(x.v, x.d)]) := HS.out.trans (if_pos rfl)
            clear HS hr hin HCN
            go_wp2_with (first
              | (at_builtin; go_must (refine wpList_append_sep rfl _ _ _ rfl 61 i0 _ 2 16 Tryz.underlying31 hi0 hz0 hz1 hz2 rfl (by omega) (S2.out.junk _) 1 q m d _ rfl rfl _ 1 1 _ rfl (Rd.one2 _ _ _ _) (one_encE _) (by omega) (by omega) ?_; intro q7 d7 w7 S' hsz; have S7 := Lib.hid S'; clear S' hsz))
              | (go_at_call 80; go_must (refine HCO.out.mono ?_; rintro e w2 ⟨rfl, hb⟩; have S2 := Lib.hid (SX.out.call hb); have y2 := (S2.out.blk 0 rfl).cell 2; have y3 := (S2.out.blk 0 rfl).cell 3; have yz := (S2.out.blk 0 rfl).lt; clear hb)))
            go_roundw
            case rel => exact ⟨j + 1, q7, m + 1, d7, by omega, by go_num, rfl, by omega, by rw [HS2.out, encE_append]; exact S7.out.pick [1, 2, 3, 4] (by decide) rfl⟩
            case measure => simp [intOf]; omega
          | false =>
            rw [hin] at HCO HS
            have HS2 : Hid (hitS (l.take (j + 1)) P = hitS (l.take j) P) := HS.out.trans (if_neg (by simp))
            clear HS hr hin HCN
            go_wp2_with (go_at_call 80; go_must (refine HCO.out.mono ?_; rintro e w2 ⟨rfl, hb⟩; have S2 := Lib.hid (SX.out.call hb); clear hb))
            go_roundw
            case rel => exact ⟨j + 1, q, m, d, by omega, by go_num, rfl, by omega, by rw [HS2.out]; exact S2.out.pick [1, 2, 3, 4] (by decide) rfl⟩
            case measure => simp [intOf]; omega
        · have e1 : (x.r == 0) = false := by simpa using hr
          rw [e1, Bool.false_and] at HS
          have HS2 : Hid (hitS (l.take (j + 1)) P = hitS (l.take j) P) := HS.out.trans (if_neg (by simp))
          clear HS hr HCN HCO
          go_wp2
          go_roundw
          case rel => exact ⟨j + 1, q, m, d, by omega, by go_num, rfl, by omega, by rw [HS2.out]; exact SX.out.pick [1, 2, 3, 4] (by decide) rfl⟩
          case measure => simp [intOf]; omega
      · obtain rfl : j = n := by omega
        rw [List.take_of_length_le (by rw [← L1.out]; exact Nat.le_refl _)] at S
        have a5 := (S.blk 3 rfl).cell 5
        have az := (S.blk 3 rfl).lt
        have HFR := Lib.hid (First10 q m d (hitS l P) most wr (S.rdx 0 rfl) (by omega))
        rw [HFI.out] at HFR
        have SH := Lib.hid S; clear S
        go_wp2_with (go_at_call 81; go_must (refine HFR.out.mono ?_; rintro e w3 ⟨q3, d3, rfl, Z⟩; have S4 := Lib.hid (SH.out.comp Z); clear Z; have b0 := (S4.out.blk 3 rfl).cell 0; have b1 := (S4.out.blk 3 rfl).cell 1; have b2 := (S4.out.blk 3 rfl).cell 2; have bz := (S4.out.blk 3 rfl).lt; have f0 := (S4.out.blk 3 rfl).frozen 0; have f1 := (S4.out.blk 3 rfl).frozen 1; have f2 := (S4.out.blk 3 rfl).frozen 2))
        have S9 := Lib.hid (((S4.out.set 3 rfl 0 (.bool (decide (0 < F.length)))).set 3 rfl 1 (.int .i64 0)).set 3 rfl 2 (.slice q3 F.length d3))
        have x0 := (S9.out.blk 3 rfl).cell 0
        have x1 := (S9.out.blk 3 rfl).cell 1
        have x2 := (S9.out.blk 3 rfl).cell 2
        exact bodyPost_ret (v := .agg #[.bool (decide (0 < F.length)), .int .i64 0, .slice q3 F.length d3]) (by simp [results, Tryz.results50, go_sem, x0, x1, x2, Tryz.sizeOf33, Tryz.isAgg33]) rfl ⟨q3, d3, rfl, S9.out.pick [0] (by decide) rfl⟩
end Go.Proofs.YtkekibnhmfmhmaaGreat
/- Chapter 18 (reference): near. -/
namespace Go.Proofs.YtkekibnhmfmhmaaGreat
open Go Go.RowKit
attribute [local go_sem] Oper.semAt_some
set_option maxRecDepth 100000 in
set_option maxHeartbeats 8000000 in
theorem Near18 (k f t : Int) (pw : Option Addr) (nw cw : Nat) (ws : List ByteArray) (rad most : Int) (pp : Option Addr) (np cp : Nat) (hs : List Hd) (L : List Po) (p : Option Addr) (n c : Nat) (l : List Sq) (w : World) (hL : RdP w pp np hs L) (hok : PoOk L) (hw : Rd w 1 pw nw (encS ws)) (hnw : nw ≤ 100) (hl : Rd w 4 p n (encQ l)) (hn : n ≤ 1000) :
    Calls Tryz.prog 52 #[.agg #[.int .i64 k, .int .i64 f, .int .i64 t, .slice pw nw cw, .int .i64 rad, .int .i64 most], .slice pp np cp, .slice p n c] w fun e w' => ∃ q c', e = .returned (.agg #[.bool (decide (0 < (nearS l (allX L ws) most).length)), .int .i64 0, .slice q (nearS l (allX L ws) most).length c']) ∧ Sep w w' [.own 61 2 q (nearS l (allX L ws) most).length c' (encE (nearS l (allX L ws) most))] := by
  obtain ⟨i0, hi0, hz0, hz1, hz2⟩ := info_parts infAh
  have p1 := hl.ptr
  have n1 := hl.small
  have L1 := Lib.hid hl.nQ
  have S0 := Lib.hid (((Sep.start w).al #[.int .i64 k, .int .i64 f, .int .i64 t, .slice pw nw cw, .int .i64 rad, .int .i64 most] 24 w.heap.size rfl).al #[.bool false, .int .i64 0, .slice none 0 0] 33 (w.heap.size + 1) (by simp))
  have HA := Lib.hid (fun W (h : Ext w W) => All05x pp np cp hs L pw nw cw ws W (hL.ext h) hok (hw.ext h) hnw)
  have HL := Lib.hid hl
  clear hl hw hL hok
  unfold nearS
  generalize codeX ws = cx at *
  generalize allX L ws = P at *
  obtain ⟨F, hF⟩ : ∃ F, firstN (hitS l P) most = F := ⟨_, rfl⟩
  rw [hF]
  have HFI := Lib.hid hF
  clear hF
  go_enter Tryz.func52, Tryz.ntmps52
  go_wp2_with (go_at_call 71; go_must (refine (HA.out _ S0.out.ext).mono ?_; rintro e w1 ⟨q1, c1, rfl, Z⟩; have S1 := Lib.hid (S0.out.comp Z); clear Z))
  have S3 := Lib.hid (S1.out.nilrow 61 2 : Sep w w1 [.own 61 2 none 0 0 [], .own 3 1 q1 P.length c1 (encI P), .blk (w.heap.size + 1) 33 #[.bool false, .int .i64 0, .slice none 0 0], .blk w.heap.size 24 #[.int .i64 k, .int .i64 f, .int .i64 t, .slice pw nw cw, .int .i64 rad, .int .i64 most]])
  clear S1 S0 HA
  go_loopw [9, 10, 11] (fun v i _ wr => ∃ (j : Nat) (q : Option Addr) (m d : Nat), j ≤ n ∧ i = .int .i64 j ∧ v = .slice q m d ∧ m ≤ j ∧ Sep w wr [.own 61 2 q m d (encE (hitS (l.take j) P)), .own 3 1 q1 P.length c1 (encI P), .blk (w.heap.size + 1) 33 #[.bool false, .int .i64 0, .slice none 0 0], .blk w.heap.size 24 #[.int .i64 k, .int .i64 f, .int .i64 t, .slice pw nw cw, .int .i64 rad, .int .i64 most]]) (fun _ i _ _ => n - (intOf i).toNat)
  case atStart => exact ⟨0, none, 0, 0, Nat.zero_le _, rfl, rfl, Nat.le_refl _, S3.out⟩
  case round =>
    clear S3
    obtain ⟨j, q, m, d, hj, rfl, rfl, hm, S⟩ := hrel
    by_cases hlt : j < n
    · obtain ⟨g1, g2, g3, g4⟩ := (HL.out.ext S.ext).cQ hlt
      have hpb := (HL.out.ext S.ext).lt (by omega)
      have HT := Lib.hid (take_succ_nth l j (by rw [← L1.out]; exact hlt))
      have HD4 : Hid (∀ W, Ext w W → W.cell? (adr p (j * 4 + 3)) = some (.int .i64 (nth l j).d)) := fun W h => ((HL.out.ext h).cQ hlt).2.2.2
      have d1 : (0:Int) ≤ j := by omega
      have d2 : (j:Int) < n := by omega
      have SH := Lib.hid S; clear S
      generalize nth l j = x at *
      have HS := Lib.hid (hitS_snoc (l.take j) P x)
      rw [← HT.out] at HS
      have SX := Lib.hid (SH.out.al #[.int .i64 x.s, .int .i64 x.r, .int .i64 x.v] 43 wr.heap.size rfl)
      have HCO := Lib.hid (In05 q1 P.length c1 P x.v _ (SX.out.rdx 2 rfl))
      have HCN : Hid (inB P x.v = P.contains x.v) := by unfold Hid; rw [Bool.eq_iff_iff, inB_iff]; simp
      by_cases hr : x.r = 0
      · have e1 : (x.r == 0) = true := by simpa using hr
        rw [e1, Bool.true_and, ← HCN.out] at HS
        cases hin : inB P x.v with
        | true =>
          rw [hin] at HCO HS
          have HS2 : Hid (hitS (l.take (j + 1)) P = hitS (l.take j) P ++ [(x.v, x.d)]) := HS.out.trans (if_pos rfl)
          clear HS hr hin HCN
          go_wp2_with (go_at_call 42; go_must (refine HCO.out.mono ?_; rintro e w2 ⟨rfl, rfl⟩))
          obtain ⟨X, hX⟩ : ∃ X, X = wr.alloc (.cells #[.int .i64 x.s, .int .i64 x.r, .int .i64 x.v] 43) := ⟨_, rfl⟩
          rw [← hX] at SX ⊢
          clear hX g1 g2 g3 g4 HCO
          have k2 : X.cell? ⟨wr.heap.size, 2, none⟩ = some (.int .i64 x.v) := (SX.out.blk 0 rfl).cell 2
          refine wp_region_noPanic ?_
          refine wp_region_held_drew (S := fun w' => w'.cell? ⟨wr.heap.size, 2, none⟩ = some (.int .i64 x.v) ∧ w'.cell? (adr p (j * 4 + 3)) = some (.int .i64 x.d)) (by kernel_rfl) ⟨k2, HD4.out _ SX.out.drew.ext⟩ (fun hHeld => ?_)
          have SD := Lib.hid SX.out.drew
          clear SX k2
          generalize X.drew = D at SD hHeld ⊢
          refine wpAnyH_take (i := 0) (v := .slice q m d) rfl (by kernel_rfl) (by kernel_rfl) (by kernel_rfl) (noPanic_q _ _) (Or.inl ⟨by kernel_rfl, fun W hSw => by obtain ⟨h1, h2⟩ := hSw; go_simp⟩) hHeld ?_
          refine wpAnyH_take (i := 1) (v := .pointer (some ⟨wr.heap.size, 2, none⟩)) rfl (by kernel_rfl) (by kernel_rfl) (by kernel_rfl) (noPanic_q _ _) (Or.inl ⟨by kernel_rfl, fun W hSw => by obtain ⟨h1, h2⟩ := hSw; go_simp⟩) hHeld ?_
          refine wpAnyH_take (i := 2) (v := .int .i64 x.v) rfl (by kernel_rfl) (by kernel_rfl) (by kernel_rfl) (noPanic_q _ _) (Or.inl ⟨by kernel_rfl, fun W hSw => by obtain ⟨h1, h2⟩ := hSw; go_simp⟩) hHeld ?_
          refine wpAnyH_take (i := 3) (v := .slice p n c) rfl (by kernel_rfl) (by kernel_rfl) (by kernel_rfl) (noPanic_q _ _) (Or.inl ⟨by kernel_rfl, fun W hSw => by obtain ⟨h1, h2⟩ := hSw; go_simp⟩) hHeld ?_
          refine wpAnyH_take (i := 4) (v := .int .i64 (j:Int)) rfl (by kernel_rfl) (by kernel_rfl) (by kernel_rfl) (noPanic_q _ _) (Or.inl ⟨by kernel_rfl, fun W hSw => by obtain ⟨h1, h2⟩ := hSw; go_simp⟩) hHeld ?_
          refine wpAnyH_take (i := 5) (v := .pointer (some (adr p (j * 4)))) rfl (by kernel_rfl) (by kernel_rfl) (by kernel_rfl) (noPanic_q _ _) (Or.inl ⟨by kernel_rfl, fun W hSw => by obtain ⟨h1, h2⟩ := hSw; go_simp⟩) hHeld ?_
          refine wpAnyH_take (i := 6) (v := .pointer (some (adr p (j * 4 + 3)))) rfl (by kernel_rfl) (by kernel_rfl) (by kernel_rfl) (noPanic_q _ _) (Or.inl ⟨by kernel_rfl, fun W hSw => by obtain ⟨h1, h2⟩ := hSw; go_simp⟩) hHeld ?_
          refine wpAnyH_take (i := 7) (v := .int .i64 x.d) rfl (by kernel_rfl) (by kernel_rfl) (by kernel_rfl) (noPanic_q _ _) (Or.inl ⟨by kernel_rfl, fun W hSw => by obtain ⟨h1, h2⟩ := hSw; go_simp⟩) hHeld ?_
          refine wpAnyH_take (i := 8) (v := .agg #[.int .i64 x.v, .int .i64 x.d]) rfl (by kernel_rfl) (by kernel_rfl) (by kernel_rfl) (noPanic_q _ _) (Or.inl ⟨by kernel_rfl, fun W hSw => by obtain ⟨h1, h2⟩ := hSw; go_simp⟩) hHeld ?_
          have SA := Lib.hid (SD.out.alrw #[.int .i64 x.v, .int .i64 x.d] 61 2 1 D.heap.size rfl (by decide) rfl)
          obtain ⟨q7, d7, w7, hrun, S'⟩ := SA.out.appended 2 31 31 61 i0 _ 2 16 Tryz.underlying31 hi0 hz0 hz1 hz2 rfl (by omega) q m d (encE (hitS (l.take j) P)) rfl (some ⟨D.heap.size, 0, none⟩) 1 1 (encE [(x.v, x.d)]) (SA.out.rdx 0 rfl) (one_encE _) (by omega) (by omega)
          have S7 := Lib.hid S'
          refine wpAnyH_ready (rs := [9]) (by kernel_rfl) (by simp) (AllReadyH.cons rfl (fun K hK => ?_) AllReadyH.nil)
          go_simp
          have hx9 := SA.out.ext
          refine hK.out _ _ ⟨(SA.out.blk 1 rfl).cell 2, HD4.out _ hx9⟩ (fun hHeld => ?_)
          clear hK
          refine wpAnyH_ready (rs := [10]) (by kernel_rfl) (by simp) (AllReadyH.cons rfl (fun K hK => ?_) AllReadyH.nil)
          rw [if_pos (by rfl)]
          refine operwp_append (.tmp 40) (.tmp 49) 31 (by rfl) (by rfl) (by rfl) hrun ?_
          refine hK.out _ _ ⟨(S7.out.blk 1 rfl).cell 2, HD4.out _ S7.out.ext⟩ (fun hHeld => ?_)
          clear hK
          refine wpAnyH_take (i := 11) (v := .slice q7 (m + 1) d7) rfl (by kernel_rfl) (by kernel_rfl) (by kernel_rfl) (noPanic_q _ _) (Or.inl ⟨by kernel_rfl, fun W hSw => by obtain ⟨h1, h2⟩ := hSw; go_simp⟩) hHeld ?_
          refine wpAnyH_done (by kernel_rfl) ?_ _
          refine noPanic_mk ?_
          clear hHeld hrun S' hx9
          try simp [Act.put]
          go_wp2
          go_roundw
          case rel => exact ⟨j + 1, q7, m + 1, d7, by omega, by go_num, rfl, by omega, by rw [HS2.out, encE_append]; exact S7.out.pick [2, 3, 4, 5] (by decide) rfl⟩
          case measure => simp [intOf]; omega
        | false =>
          rw [hin] at HCO HS
          have HS2 : Hid (hitS (l.take (j + 1)) P = hitS (l.take j) P) := HS.out.trans (if_neg (by simp))
          clear HS hr hin HCN
          go_wp2_with (go_at_call 42; go_must (refine HCO.out.mono ?_; rintro e w2 ⟨rfl, rfl⟩))
          go_roundw
          case rel => exact ⟨j + 1, q, m, d, by omega, by go_num, rfl, by omega, by rw [HS2.out]; exact SX.out.pick [1, 2, 3, 4] (by decide) rfl⟩
          case measure => simp [intOf]; omega
      · have e1 : (x.r == 0) = false := by simpa using hr
        rw [e1, Bool.false_and] at HS
        have HS2 : Hid (hitS (l.take (j + 1)) P = hitS (l.take j) P) := HS.out.trans (if_neg (by simp))
        clear HS hr HCN HCO
        go_wp2
        go_roundw
        case rel => exact ⟨j + 1, q, m, d, by omega, by go_num, rfl, by omega, by rw [HS2.out]; exact SX.out.pick [1, 2, 3, 4] (by decide) rfl⟩
        case measure => simp [intOf]; omega
    · obtain rfl : j = n := by omega
      rw [List.take_of_length_le (by rw [← L1.out]; exact Nat.le_refl _)] at S
      have a5 := (S.blk 3 rfl).cell 5
      have az := (S.blk 3 rfl).lt
      have HFR := Lib.hid (First10r q m d (hitS l P) most wr (S.rdx 0 rfl) (by omega))
      rw [HFI.out] at HFR
      have SH := Lib.hid S; clear S
      go_wp2_with (go_at_call 83; go_must (refine HFR.out.mono ?_; rintro e w3 ⟨q3, d3, rfl, Z⟩; have S4 := Lib.hid (SH.out.comp Z); clear Z; have b0 := (S4.out.blk 3 rfl).cell 0; have b1 := (S4.out.blk 3 rfl).cell 1; have b2 := (S4.out.blk 3 rfl).cell 2; have bz := (S4.out.blk 3 rfl).lt; have f0 := (S4.out.blk 3 rfl).frozen 0; have f1 := (S4.out.blk 3 rfl).frozen 1; have f2 := (S4.out.blk 3 rfl).frozen 2))
      have S9 := Lib.hid (((S4.out.set 3 rfl 0 (.bool (decide (0 < F.length)))).set 3 rfl 1 (.int .i64 0)).set 3 rfl 2 (.slice q3 F.length d3))
      have x0 := (S9.out.blk 3 rfl).cell 0
      have x1 := (S9.out.blk 3 rfl).cell 1
      have x2 := (S9.out.blk 3 rfl).cell 2
      exact bodyPost_ret (v := .agg #[.bool (decide (0 < F.length)), .int .i64 0, .slice q3 F.length d3]) (by simp [results, Tryz.results52, go_sem, x0, x1, x2, Tryz.sizeOf33, Tryz.isAgg33]) rfl ⟨q3, d3, rfl, S9.out.pick [0] (by decide) rfl⟩
end Go.Proofs.YtkekibnhmfmhmaaGreat
/- Chapter 18: is a query of the kind 3 done, or one of no kind (the program's Done). -/
namespace Go.Proofs.YtkekibnhmfmhmaaGreat
open Go Go.RowKit
set_option maxRecDepth 100000 in
set_option maxHeartbeats 4000000 in
theorem Done3 (f t : Int) (pw : Option Addr) (nw cw : Nat) (ws : List ByteArray) (rad most : Int) (pp : Option Addr) (np cp : Nat) (hs : List Hd) (L : List Po) (p : Option Addr) (n c : Nat) (l : List Sq) (pm : Option Addr) (nm cm : Nat) (w : World) (hL : RdP w pp np hs L) (hok : PoOk L) (hw : Rd w 1 pw nw (encS ws)) (hcw : nw ≤ cw) (hnw : nw ≤ 100) (hl : Rd w 4 p n (encQ l)) (hn : n ≤ 1000) (hm : nm = 0) :
    Calls Tryz.prog 13 #[.agg #[.int .i64 3, .int .i64 f, .int .i64 t, .slice pw nw cw, .int .i64 rad, .int .i64 most], .slice pp np cp, .slice p n c, .slice pm nm cm] w fun e w' => ∃ q c', e = .returned (.tuple #[.agg #[.bool (decide (0 < (nearS l (allX L ws) most).length)), .int .i64 0, .slice q (nearS l (allX L ws) most).length c'], .bool true]) ∧ Sep w w' [.own 61 2 q (nearS l (allX L ws) most).length c' (encE (nearS l (allX L ws) most))] := by
  have S0 := Lib.hid ((((Sep.start w).al #[.int .i64 3, .int .i64 f, .int .i64 t, .slice pw nw cw, .int .i64 rad, .int .i64 most] 24 w.heap.size rfl).al #[.slice pm nm cm] 27 (w.heap.size + 1) (by simp)).al #[.bool false, .int .i64 0, .slice none 0 0] 33 (w.heap.size + 1 + 1) (by simp))
  have HH := Lib.hid (fun W (h : Ext w W) => HitsG 3 f t pw nw cw ws rad most pp np cp hs L p n c l W (hL.ext h) hok (hw.ext h) hcw hnw (hl.ext h) hn)
  clear hL hok hw hl
  generalize nearS l (allX L ws) most = F at *
  subst hm
  go_enter Tryz.func13, Tryz.ntmps13
  go_wp2_with (go_at_call 50; go_must (refine (HH.out _ S0.out.ext).mono ?_; rintro e w1 ⟨q, d, rfl, Z⟩; have S1 := Lib.hid (S0.out.comp Z); clear Z; have b0 := (S1.out.blk 1 rfl).cell 0; have b1 := (S1.out.blk 1 rfl).cell 1; have b2 := (S1.out.blk 1 rfl).cell 2; have bz := (S1.out.blk 1 rfl).lt; have f0 := (S1.out.blk 1 rfl).frozen 0; have f1 := (S1.out.blk 1 rfl).frozen 1; have f2 := (S1.out.blk 1 rfl).frozen 2))
  have S9 := Lib.hid (((S1.out.set 1 rfl 0 (.bool (decide (0 < F.length)))).set 1 rfl 1 (.int .i64 0)).set 1 rfl 2 (.slice q F.length d))
  have x0 := (S9.out.blk 1 rfl).cell 0
  have x1 := (S9.out.blk 1 rfl).cell 1
  have x2 := (S9.out.blk 1 rfl).cell 2
  exact bodyPost_ret (v := .tuple #[.agg #[.bool (decide (0 < F.length)), .int .i64 0, .slice q F.length d], .bool true]) (by simp [results, Tryz.results13, go_sem, x0, x1, x2, Tryz.sizeOf33, Tryz.isAgg33]) rfl ⟨q, d, rfl, S9.out.pick [0] (by decide) rfl⟩
set_option maxRecDepth 100000 in
set_option maxHeartbeats 4000000 in
theorem Done3m (f t : Int) (pw : Option Addr) (nw cw : Nat) (rad most : Int) (pp : Option Addr) (np cp : Nat) (p : Option Addr) (n c : Nat) (pm : Option Addr) (nm cm : Nat) (w : World) (hm : 0 < nm) :
    Calls Tryz.prog 13 #[.agg #[.int .i64 3, .int .i64 f, .int .i64 t, .slice pw nw cw, .int .i64 rad, .int .i64 most], .slice pp np cp, .slice p n c, .slice pm nm cm] w fun e w' => e = .returned (.tuple #[.agg #[.bool false, .int .i64 0, .slice none 0 0], .bool false]) ∧ Ext w w' := by
  have S0 := Lib.hid ((((Sep.start w).al #[.int .i64 3, .int .i64 f, .int .i64 t, .slice pw nw cw, .int .i64 rad, .int .i64 most] 24 w.heap.size rfl).al #[.slice pm nm cm] 27 (w.heap.size + 1) (by simp)).al #[.bool false, .int .i64 0, .slice none 0 0] 33 (w.heap.size + 1 + 1) (by simp))
  have e1 : decide ((0:Int) < (nm:Int)) = true := by simp; omega
  go_enter Tryz.func13, Tryz.ntmps13
  go_wp2
  have S9 := Lib.hid (((S0.out.set 0 rfl 0 (.bool false)).set 0 rfl 1 (.int .i64 0)).set 0 rfl 2 (.slice none 0 0))
  exact bodyPost_ret (v := .tuple #[.agg #[.bool false, .int .i64 0, .slice none 0 0], .bool false]) (by simp [results, Tryz.results13, go_sem, Tryz.sizeOf33, Tryz.isAgg33]) rfl ⟨rfl, S0.out.ext⟩
set_option maxRecDepth 100000 in
set_option maxHeartbeats 4000000 in
theorem Done0 (k f t : Int) (pw : Option Addr) (nw cw : Nat) (rad most : Int) (pp : Option Addr) (np cp : Nat) (p : Option Addr) (n c : Nat) (pm : Option Addr) (nm cm : Nat) (w : World) (h1 : k ≠ 1) (h2 : k ≠ 2) (h3 : k ≠ 3) :
    Calls Tryz.prog 13 #[.agg #[.int .i64 k, .int .i64 f, .int .i64 t, .slice pw nw cw, .int .i64 rad, .int .i64 most], .slice pp np cp, .slice p n c, .slice pm nm cm] w fun e w' => e = .returned (.tuple #[.agg #[.bool false, .int .i64 0, .slice none 0 0], .bool true]) ∧ Ext w w' := by
  have S0 := Lib.hid ((((Sep.start w).al #[.int .i64 k, .int .i64 f, .int .i64 t, .slice pw nw cw, .int .i64 rad, .int .i64 most] 24 w.heap.size rfl).al #[.slice pm nm cm] 27 (w.heap.size + 1) (by simp)).al #[.bool false, .int .i64 0, .slice none 0 0] 33 (w.heap.size + 1 + 1) (by simp))
  have e1 : (k == 1) = false := by simpa using h1
  have e2 : (k == 2) = false := by simpa using h2
  have e3 : (k == 3) = false := by simpa using h3
  clear h1 h2 h3
  go_enter Tryz.func13, Tryz.ntmps13
  go_wp2
  exact bodyPost_ret (v := .tuple #[.agg #[.bool false, .int .i64 0, .slice none 0 0], .bool true]) (by simp [results, Tryz.results13, go_sem, Tryz.sizeOf33, Tryz.isAgg33]) rfl ⟨rfl, S0.out.ext⟩
end Go.Proofs.YtkekibnhmfmhmaaGreat
/- The document's Same of hits (chapter 9, reference). -/
namespace Go.Proofs.YtkekibnhmfmhmaaGreat
open Go Go.RowKit
theorem eqHit9 (a b c d : Int) (w : World) : (binOp .eql 61 (.agg #[.int .i64 a, .int .i64 b]) (.agg #[.int .i64 c, .int .i64 d])).run Tryz.prog w = .ok (.bool (eqE (a, b) (c, d))) w := by
  have u3 := Tryz.underlying3
  have a3 := Tryz.isAgg3
  have z3 := Tryz.sizeOf3
  have hS : Tryz.prog.underlying 61 = some (.struct (Tryz.prog.fieldsOf 61)) := by kernel_rfl
  have hp : Tryz.prog.stoodInHeld 61 = false := by kernel_rfl
  rw [run_eql_struct, show (10000 : Nat) = 9999 + 1 from rfl, run_equalIn_agg w 9999 61 _ _ hS hp]
  simp only [Program.fieldsOf, Tryz.underlying61]
  go_simp
  by_cases h1 : a = c <;> by_cases h2 : b = d <;> simp [h1, h2, eqE]
theorem neqHit9 (a b c d : Int) (w : World) : (binOp .neq 61 (.agg #[.int .i64 a, .int .i64 b]) (.agg #[.int .i64 c, .int .i64 d])).run Tryz.prog w = .ok (.bool (!eqE (a, b) (c, d))) w := by
  have h := eqHit9 a b c d w
  rw [run_eql_struct] at h
  rw [run_neq_struct]
  generalize (Op.equalIn 10000 61 (.agg #[.int .i64 a, .int .i64 b]) (.agg #[.int .i64 c, .int .i64 d])).run Tryz.prog w = r at h ⊢
  cases r with
  | ok x w1 => simp only [Result.andThen_ok, Result.ok.injEq, Value.bool.injEq] at h ⊢; rw [h.1, h.2]; simp
  | halt x w1 => simp [Result.andThen] at h
theorem guardHit9 (op : BinOp) (x y : Operand) (xs ys : Array Value) (w : World) : (eqGuard op 61 x y (.agg xs) (.agg ys)).run Tryz.prog w = .ok () w := run_eqGuard_agg w op 61 x y xs ys (by kernel_rfl)

attribute [local go_sem ↓] eqHit9 neqHit9 guardHit9
set_option maxRecDepth 100000 in
set_option maxHeartbeats 4000000 in
theorem HitsY9 (p q : Option Addr) (n m c d : Nat) (E : List (Int × Int)) (w : World) (h1 : Rd w 2 p n (encE E)) (h2 : Rd w 2 q m (encE E)) :
    Calls Tryz.prog 34 #[.slice p n c, .slice q m d] w fun e w' => e = .returned (.bool true) ∧ Ext w w' := by
  obtain rfl : n = m := by rw [h1.nE, h2.nE]
  have p1 := h1.ptr
  have p2 := h2.ptr
  have n1 := h1.small
  have H1 := Lib.hid h1; clear h1
  have H2 := Lib.hid h2; clear h2
  go_enter Tryz.func34, Tryz.ntmps34
  go_wp2
  go_loopw [5] (fun i wr => ∃ k : Nat, k ≤ n ∧ i = .int .i64 k ∧ Ext w wr) (fun i _ => n - (intOf i).toNat)
  case atStart => exact ⟨0, Nat.zero_le _, rfl, Below.refl _ _⟩
  case round =>
    obtain ⟨k, hk, rfl, hE⟩ := hrel
    by_cases hlt : k < n
    · have g1 := hE.cell (H1.out.cE hlt)
      have g2 := hE.cell (H1.out.cE2 hlt)
      have g3 := hE.cell (H2.out.cE hlt)
      have g4 := hE.cell (H2.out.cE2 hlt)
      have d1 : (0:Int) ≤ k := by omega
      have d2 : (k:Int) < n := by omega
      have hq : eqE ((nth E k).1, (nth E k).2) ((nth E k).1, (nth E k).2) = true := by simp [eqE]
      have HE := Lib.hid hE; clear hE
      go_wp2
      go_quiet (fail)
      go_wp2
      go_roundw
      case rel => exact ⟨k + 1, by omega, by go_num, HE.out.drewN _⟩
      case measure => simp [intOf]; omega
    · have HE := Lib.hid hE; clear hE
      go_wp2
      go_ret
      exact ⟨rfl, HE.out⟩
end Go.Proofs.YtkekibnhmfmhmaaGreat
