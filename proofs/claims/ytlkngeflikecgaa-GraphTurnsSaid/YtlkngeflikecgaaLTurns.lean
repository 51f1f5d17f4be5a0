/- The law GraphTurns: places have just these degrees, and a graph is turned just so. -/
import Derived.Test.YtlkngeflikecgaaLNormal
import Derived.Test.YtlkngeflikecgaaGT
import Derived.Test.YtlkngeflikecgaaRD
namespace Go.Proofs.Ytlkngeflikecgaa
open Go Go.RowKit Go.Shelf Go.Lib Go.Sort
theorem swap_lens {N : Int} {E : List (Int × Int)} {W : List (List ByteArray)} : (normE N (E.map swapE) W).length ≤ E.length ∧ (normW N (E.map swapE) W).length ≤ W.length ∧ ∀ l ∈ normW N (E.map swapE) W, l.length ≤ 1000000 ∨ ¬ checkB N (E.map swapE) W = true := by
  refine ⟨?_, ?_, ?_⟩
  · unfold normE; split
    · have := putAll_len lessE (E.map swapE); rw [List.length_map] at this; exact this
    · simp
  · unfold normW; split
    · simp
    · simp
  · intro l hl
    by_cases hc : checkB N (E.map swapE) W = true
    · left
      unfold normW at hl
      rw [if_pos hc] at hl
      obtain ⟨l', hl', rfl⟩ := List.mem_map.1 hl
      have h1 := putAll_len sLess l'
      have h2 := rowOk_len (checkB_parts hc).2.2.2.2.2 l' hl'
      omega
    · exact .inr hc
theorem swap_words {N : Int} {E : List (Int × Int)} {W : List (List ByteArray)} : ∀ l ∈ normW N (E.map swapE) W, l.length ≤ 1000000 := by
  intro l hl
  rcases swap_lens.2.2 l hl with h | h
  · exact h
  · unfold normW at hl; rw [if_neg h] at hl; cases hl
set_option maxRecDepth 100000 in
set_option maxHeartbeats 8000000 in
theorem lawTurns (N : Int) (pe : Option Addr) (ne ce : Nat) (pw : Option Addr) (nw cw : Nat) (E : List (Int × Int)) (hs : List Hd) (W : List (List ByteArray)) (w : World) (v : Int) (hE : Rd w 2 pe ne (encE E)) (hW : RdW w pw nw hs W) : Calls Try.prog 6 #[.agg #[.int .i64 N, .slice pe ne ce, .slice pw nw cw], .int .i64 v] w fun e w' => e = .returned (.bool true) ∧ Ext w w' := by
  have HBig := Lib.hid (fun W1 (h : Ext w W1) => Big02 N pe ne ce pw nw cw E hs W W1 (hE.ext h) (hW.ext h))
  have S0 := Lib.hid ((Sep.start w).al #[.int .i64 N, .slice pe ne ce, .slice pw nw cw] 25 w.heap.size rfl)
  by_cases hbig : bigB E W = true
  · rw [hbig] at HBig
    clear hE hW
    go_enter Try.func6, Try.ntmps6
    go_wp2_with (go_at_call 8; go_must (refine (HBig.out _ S0.out.ext).mono ?_; rintro e w1 ⟨rfl, hb1⟩; have S1 := Lib.hid (S0.out.call hb1); clear hb1))
    go_ret
    exact ⟨rfl, S1.out.ext⟩
  · have hbig' : bigB E W = false := by simpa using hbig
    have hz := szW_of_big hbig'
    obtain ⟨l1, l2, l3⟩ := lens_of_big hbig'
    rw [hbig'] at HBig
    clear hbig hbig'
    have n1 := hE.nE
    have n2 := hW.nW
    have HOwn := Lib.hid (fun W1 (h : Ext w W1) => Own02 N pe ne ce pw nw cw E hs W W1 (hE.ext h) (hW.ext h) (by omega) (by omega) (fun l hl => Nat.le_trans (l3 l hl) (by omega)))
    have HT := Lib.hid (fun W1 (h : Ext w W1) => TurnedG N pe ne ce pw nw cw E hs W W1 (hE.ext h) (hW.ext h) hz (by omega))
    have HD := Lib.hid (fun W1 (h : Ext w W1) => DegreesG N pe ne ce pw nw cw E hs W W1 v (hE.ext h) (hW.ext h) hz)
    have HT2 := Lib.hid (fun po no co pq mo do' ho W1 (h1 : Rd W1 2 po no (encE E)) (h2 : RdW W1 pq mo ho W) => Turned02 N po no co pq mo do' E ho W W1 h1 h2 hz (by have := h1.nE; omega))
    have HD2 := Lib.hid (fun po no co pq mo do' ho W1 (h1 : Rd W1 2 po no (encE E)) (h2 : RdW W1 pq mo ho W) => Degrees02 N po no co pq mo do' E ho W W1 v h1 h2 hz)
    have HSame2 := Lib.hid (fun po no co pq mo do' ho W1 (h3 : Rd W1 2 pe ne (encE E)) (h4 : RdW W1 pw nw hs W) (h1 : Rd W1 2 po no (encE E)) (h2 : RdW W1 pq mo ho W) => Same02 N pe ne ce pw nw cw E hs W N po no co pq mo do' E ho W W1 h3 h4 h1 h2)
    have hself : ∀ M D V, sameB M D V M D V = true := fun M D V => by simp [sameB]
    rw [hself] at HSame2
    have lD := (swap_lens (N := N) (E := E) (W := W)).1
    have lV := (swap_lens (N := N) (E := E) (W := W)).2.1
    have LV2 := Lib.hid (swap_words (N := N) (E := E) (W := W))
    have K0 := Lib.hid (((Kn.nil w).add (fun w => Rd w 2 pe ne (encE E)) (fun _ he => hE.ext he)).add (fun w => RdW w pw nw hs W) (fun _ he => hW.ext he))
    clear hE hW hz l3 n1 n2
    generalize normN N (E.map swapE) W = M at *
    generalize normE N (E.map swapE) W = D at *
    generalize normW N (E.map swapE) W = V at *
    generalize normC N (E.map swapE) W = cc at *
    generalize degO N E W v = dO at *
    generalize degI N E W v = dI at *
    generalize placeB N E W v = dP at *
    go_enter Try.func6, Try.ntmps6
    go_wp2_with (first
      | (go_at_call 12; have _t := S8; go_must (refine (HSame2.out po no co pq mo do' ho _ (K8.out.get 7 rfl) (K8.out.get 6 rfl) (K8.out.get 5 rfl) (K8.out.get 4 rfl)).mono ?_; rintro e w9 ⟨rfl, hb⟩; have S9 := Lib.hid (S8.out.call hb); clear hb))
      | (go_at_call 12; have _t := S7; go_must (have hsm := Same02 M q D.length cq qh V.length ch D ha V M pb nb cb pd nd cd D hb' V _ (K7.out.get 3 rfl) (K7.out.get 2 rfl) (K7.out.get 1 rfl) (K7.out.get 0 rfl); rw [hself] at hsm; refine hsm.mono ?_; rintro e w8 ⟨rfl, hb⟩; have S8 := Lib.hid (S7.out.call hb); have K8 := Lib.hid (K7.out.ext hb); have oz := (S8.out.blk 2 rfl).lt; have o0 := (S8.out.blk 2 rfl).cell 0; have o1 := (S8.out.blk 2 rfl).cell 1; have o2 := (S8.out.blk 2 rfl).cell 2; have gz := (S8.out.blk 3 rfl).lt; have g0 := (S8.out.blk 3 rfl).cell 0; have g1 := (S8.out.blk 3 rfl).cell 1; have g2 := (S8.out.blk 3 rfl).cell 2; clear hb hsm))
      | (go_at_call 19; have _t := S6; go_must (refine (Graphs _).mono ?_; rintro e w7 ⟨rfl, hb⟩; have S7 := Lib.hid (S6.out.call hb); have K7 := Lib.hid (K6.out.ext hb); have xz := (S7.out.blk 0 rfl).lt; have x0 := (S7.out.blk 0 rfl).cell 0; have x1 := (S7.out.blk 0 rfl).cell 1; have x2 := (S7.out.blk 0 rfl).cell 2; have yz := (S7.out.blk 1 rfl).lt; have y0 := (S7.out.blk 1 rfl).cell 0; have y1 := (S7.out.blk 1 rfl).cell 1; have y2 := (S7.out.blk 1 rfl).cell 2; clear hb))
      | (go_at_call 23; have _t := S5; go_must (refine (HD2.out po no co pq mo do' ho _ (K5.out.get 5 rfl) (K5.out.get 4 rfl)).mono ?_; rintro e w6 ⟨rfl, hb⟩; have S6 := Lib.hid (S5.out.call hb); have K6 := Lib.hid (K5.out.ext hb); clear hb))
      | (go_at_call 20; have _t := S4; go_must (refine (HD.out _ (S4.out.al #[.int .i64 M, .slice pb nb cb, .slice pd nd cd] 25 w4.heap.size rfl).ext).mono ?_; rintro e w5 ⟨rfl, hb⟩; have S5 := Lib.hid ((S4.out.al #[.int .i64 M, .slice pb nb cb, .slice pd nd cd] 25 w4.heap.size rfl).call hb); have K5 := Lib.hid (K4.out.ext (Ext.trans (Ext.alloc (Below.refl _ _) _) hb)); have oz := (S5.out.blk 2 rfl).lt; have o0 := (S5.out.blk 2 rfl).cell 0; have o1 := (S5.out.blk 2 rfl).cell 1; have o2 := (S5.out.blk 2 rfl).cell 2; clear hb))
      | (go_at_call 22; have _t := S3; go_must (refine (HT2.out po no co pq mo do' ho _ ((K3.out.get 3 rfl).ext (Ext.alloc (Below.refl _ _) _)) ((K3.out.get 2 rfl).ext (Ext.alloc (Below.refl _ _) _))).mono ?_; rintro e w4 ⟨vb, rfl, hG, hb⟩; obtain ⟨pb, nb, cb, pd, nd, cd, hb', rfl, rb, _, rd, _⟩ := hG; have S4 := Lib.hid ((S3.out.al #[.int .i64 M, .slice q D.length cq, .slice qh V.length ch] 25 w3.heap.size rfl).call hb); have K4 := Lib.hid (((K3.out.ext (Ext.trans (Ext.alloc (Below.refl _ _) _) hb)).add (fun w => Rd w 2 pb nb (encE D)) (fun _ he => rb.ext he)).add (fun w => RdW w pd nd hb' V) (fun _ he => rd.ext he)); have gz := (S4.out.blk 2 rfl).lt; have g0 := (S4.out.blk 2 rfl).cell 0; have g1 := (S4.out.blk 2 rfl).cell 1; have g2 := (S4.out.blk 2 rfl).cell 2; clear hb rb rd))
      | (go_at_call 21; have _t := S2; go_must (refine (HT.out _ (S2.out.al #[.int .i64 N, .slice po no co, .slice pq mo do'] 25 w2.heap.size rfl).ext).mono ?_; rintro e w3 ⟨va, rfl, hG, hb⟩; obtain ⟨q, cq, qh, ch, ha, rfl, oe, ow⟩ := hG; have S3 := Lib.hid ((S2.out.al #[.int .i64 N, .slice po no co, .slice pq mo do'] 25 w2.heap.size rfl).call hb); have K3 := Lib.hid (((K2.out.ext (Ext.trans (Ext.alloc (Below.refl _ _) _) hb)).add (fun w => Rd w 2 q D.length (encE D)) (fun _ he => (Rd.of_own oe (by omega)).ext he)).add (fun w => RdW w qh V.length ha V) (fun _ he => (ow.rd (by omega) (fun l hl => Nat.le_trans (LV2.out l hl) (by omega))).ext he)); have oz := (S3.out.blk 0 rfl).lt; have o0 := (S3.out.blk 0 rfl).cell 0; have o1 := (S3.out.blk 0 rfl).cell 1; have o2 := (S3.out.blk 0 rfl).cell 2; clear hb oe ow))
      | (go_at_call 9; have _t := S1; go_must (refine (HOwn.out _ S1.out.ext).mono ?_; rintro e w2 ⟨vo, rfl, ⟨po, no, co, pq, mo, do', ho, rfl, ro, _, rp, _⟩, hb⟩; have S2 := Lib.hid (S1.out.call hb); have K2 := Lib.hid (((K0.out.ext S2.out.ext).add (fun w => Rd w 2 po no (encE E)) (fun _ he => ro.ext he)).add (fun w => RdW w pq mo ho W) (fun _ he => rp.ext he)); have cz := (S2.out.blk 0 rfl).lt; have c0 := (S2.out.blk 0 rfl).cell 0; have c1 := (S2.out.blk 0 rfl).cell 1; have c2 := (S2.out.blk 0 rfl).cell 2; clear hb ro rp))
      | (go_at_call 8; go_must (refine (HBig.out _ S0.out.ext).mono ?_; rintro e w1 ⟨rfl, hb⟩; have S1 := Lib.hid (S0.out.call hb); have bz := (S1.out.blk 0 rfl).lt; have b0 := (S1.out.blk 0 rfl).cell 0; have b1 := (S1.out.blk 0 rfl).cell 1; have b2 := (S1.out.blk 0 rfl).cell 2; clear hb)))
    go_ret
    exact ⟨rfl, S9.out.ext⟩
end Go.Proofs.Ytlkngeflikecgaa
