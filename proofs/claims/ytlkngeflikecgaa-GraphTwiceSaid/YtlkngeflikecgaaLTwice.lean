/- The law GraphTwice: Normal twice is as once; turned twice is Normal. -/
import Derived.Test.YtlkngeflikecgaaLNormal
import Derived.Test.YtlkngeflikecgaaGT
import Derived.Test.YtlkngeflikecgaaPlain2
namespace Go.Proofs.Ytlkngeflikecgaa
open Go Go.RowKit Go.Shelf Go.Lib Go.Sort
set_option maxRecDepth 100000 in
set_option maxHeartbeats 8000000 in
theorem lawTwice (N : Int) (pe : Option Addr) (ne ce : Nat) (pw : Option Addr) (nw cw : Nat) (E : List (Int × Int)) (hs : List Hd) (W : List (List ByteArray)) (w : World) (hE : Rd w 2 pe ne (encE E)) (hW : RdW w pw nw hs W) : Calls Try.prog 7 #[.agg #[.int .i64 N, .slice pe ne ce, .slice pw nw cw]] w fun e w' => e = .returned (.bool true) ∧ Ext w w' := by
  have HBig := Lib.hid (fun W1 (h : Ext w W1) => Big02 N pe ne ce pw nw cw E hs W W1 (hE.ext h) (hW.ext h))
  have S0 := Lib.hid ((Sep.start w).al #[.int .i64 N, .slice pe ne ce, .slice pw nw cw] 25 w.heap.size rfl)
  by_cases hbig : bigB E W = true
  · rw [hbig] at HBig
    clear hE hW
    go_enter Try.func7, Try.ntmps7
    go_wp2_with (go_at_call 8; go_must (refine (HBig.out _ S0.out.ext).mono ?_; rintro e w1 ⟨rfl, hb⟩; have S1 := Lib.hid (S0.out.call hb); have bz := (S1.out.blk 0 rfl).lt; have b0 := (S1.out.blk 0 rfl).cell 0; have b1 := (S1.out.blk 0 rfl).cell 1; have b2 := (S1.out.blk 0 rfl).cell 2; clear hb))
    go_ret
    exact ⟨rfl, S1.out.ext⟩
  · have hbig' : bigB E W = false := by simpa using hbig
    have hz := szW_of_big hbig'
    rw [hbig'] at HBig
    clear hbig hbig'
    have HCk := Lib.hid (fun W1 (h : Ext w W1) => CheckG N pe ne ce pw nw cw E hs W W1 (hE.ext h) (hW.ext h) hz)
    by_cases hc : checkB N E W = true
    · have F := twice_facts hc
      rw [hc] at HCk
      have hzV := szW_map hz
      have n1 := hE.nE
      have l3 : E.length ≤ 2000 := (checkB_parts hc).2.2.1
      have HN := Lib.hid (fun W1 (h : Ext w W1) => NormalG N pe ne ce pw nw cw E hs W W1 (hE.ext h) (hW.ext h) hz)
      have HT := Lib.hid (fun W1 (h : Ext w W1) => TurnedG N pe ne ce pw nw cw E hs W W1 (hE.ext h) (hW.ext h) hz (by omega))
      have HIg := Lib.hid (fun W1 (h : Ext w W1) => IsG N pe ne ce pw nw cw E hs W W1 (hE.ext h) (hW.ext h) hz)
      generalize hV : W.map (putAll sLess) = V at *
      generalize putAll lessE E = A at *
      generalize putAll lessE (E.map swapE) = C at *
      obtain ⟨⟨a1, a2, a3, a4⟩, ⟨b1, b2, b3, b4⟩, ⟨c1, c2, c3, c4⟩, ⟨d1, d2, d3, d4⟩, i1, i2, i3, lA, lC, lV, lV2⟩ := F
      rw [a1, a2, a3, a4] at HN
      rw [c1, c2, c3, c4] at HT
      rw [i3] at HIg
      have HN2 := Lib.hid (fun q m c qh mh ch ha W1 (h1 : Rd W1 2 q m (encE A)) (h2 : RdW W1 qh mh ha V) => NormalG N q m c qh mh ch A ha V W1 h1 h2 hzV)
      rw [b1, b2, b3, b4] at HN2
      have HT2 := Lib.hid (fun q m c qh mh ch ha W1 (h1 : Rd W1 2 q m (encE C)) (h2 : RdW W1 qh mh ha V) => TurnedG N q m c qh mh ch C ha V W1 h1 h2 hzV (by have := h1.nE; omega))
      rw [d1, d2, d3, d4] at HT2
      have HI1 := Lib.hid (fun q m c qh mh ch ha W1 (h1 : Rd W1 2 q m (encE A)) (h2 : RdW W1 qh mh ha V) => IsG N q m c qh mh ch A ha V W1 h1 h2 hzV)
      rw [i1] at HI1
      have HI2 := Lib.hid (fun q m c qh mh ch ha W1 (h1 : Rd W1 2 q m (encE C)) (h2 : RdW W1 qh mh ha V) => IsG N q m c qh mh ch C ha V W1 h1 h2 hzV)
      rw [i2] at HI2
      have hself : ∀ M D V, sameB M D V M D V = true := fun M D V => by simp [sameB]
      have LV2 := Lib.hid lV2
      have K0 := Lib.hid (((Kn.nil w).add (fun w => Rd w 2 pe ne (encE E)) (fun _ he => hE.ext he)).add (fun w => RdW w pw nw hs W) (fun _ he => hW.ext he))
      clear hE hW hz hzV n1 l3 a1 a2 a3 a4 b1 b2 b3 b4 c1 c2 c3 c4 d1 d2 d3 d4 i1 i2 i3 lV2 hc hV
      generalize hsm : sameB N A V N E W = bs at HIg
      have HSM := Lib.hid hsm
      clear hsm
      go_enter Try.func7, Try.ntmps7
      go_wp2_with (first
        | (go_at_call 21; have _t := S4; go_must (refine (HT2.out q4 _ k4 r4 _ m4 h4 _ ((K4.out.get 1 rfl).ext (Ext.alloc (Below.refl _ _) _)) ((K4.out.get 0 rfl).ext (Ext.alloc (Below.refl _ _) _))).mono ?_; rintro e w5 ⟨va, rfl, ⟨q5, k5, r5, m5, h5, rfl, oe, ow⟩, hb⟩; have S5 := Lib.hid ((S4.out.al #[.int .i64 N, .slice q4 C.length k4, .slice r4 V.length m4] 25 w4.heap.size rfl).call hb); have K5 := Lib.hid (((K4.out.ext (Ext.trans (Ext.alloc (Below.refl _ _) _) hb)).add (fun w => Rd w 2 q5 A.length (encE A)) (fun _ he => (Rd.of_own oe (by omega)).ext he)).add (fun w => RdW w r5 V.length h5 V) (fun _ he => (ow.rd (by omega) (fun l hl => Nat.le_trans (LV2.out l hl) (by omega))).ext he)); clear hb oe ow))
        | (go_at_call 21; have _t := S3; go_must (refine (HT.out _ (S3.out.al #[.int .i64 N, .slice q3 A.length k3, .slice r3 V.length m3] 25 w3.heap.size rfl).ext).mono ?_; rintro e w4 ⟨va, rfl, ⟨q4, k4, r4, m4, h4, rfl, oe, ow⟩, hb⟩; have S4 := Lib.hid ((S3.out.al #[.int .i64 N, .slice q3 A.length k3, .slice r3 V.length m3] 25 w3.heap.size rfl).call hb); have K4 := Lib.hid (((K3.out.ext (Ext.trans (Ext.alloc (Below.refl _ _) _) hb)).add (fun w => Rd w 2 q4 C.length (encE C)) (fun _ he => (Rd.of_own oe (by omega)).ext he)).add (fun w => RdW w r4 V.length h4 V) (fun _ he => (ow.rd (by omega) (fun l hl => Nat.le_trans (LV2.out l hl) (by omega))).ext he)); clear hb oe ow))
        | (go_at_call 10; have _t := S2; go_must (refine (HN2.out q2 _ k2 r2 _ m2 h2 _ ((K2.out.get 1 rfl).ext (Ext.alloc (Below.refl _ _) _)) ((K2.out.get 0 rfl).ext (Ext.alloc (Below.refl _ _) _))).mono ?_; rintro e w3 ⟨va, rfl, ⟨q3, k3, r3, m3, h3, rfl, oe, ow⟩, hb⟩; have S3 := Lib.hid ((S2.out.al #[.int .i64 N, .slice q2 A.length k2, .slice r2 V.length m2] 25 w2.heap.size rfl).call hb); have K3 := Lib.hid (((K2.out.ext (Ext.trans (Ext.alloc (Below.refl _ _) _) hb)).add (fun w => Rd w 2 q3 A.length (encE A)) (fun _ he => (Rd.of_own oe (by omega)).ext he)).add (fun w => RdW w r3 V.length h3 V) (fun _ he => (ow.rd (by omega) (fun l hl => Nat.le_trans (LV2.out l hl) (by omega))).ext he)); have gz := (S3.out.blk 1 rfl).lt; have g0 := (S3.out.blk 1 rfl).cell 0; have g1 := (S3.out.blk 1 rfl).cell 1; have g2 := (S3.out.blk 1 rfl).cell 2; clear hb oe ow))
        | (go_at_call 10; have _t := S1; go_must (refine (HN.out _ S1.out.ext).mono ?_; rintro e w2 ⟨va, rfl, ⟨q2, k2, r2, m2, h2, rfl, oe, ow⟩, hb⟩; have S2 := Lib.hid (S1.out.call hb); have K2 := Lib.hid (((K0.out.ext S2.out.ext).add (fun w => Rd w 2 q2 A.length (encE A)) (fun _ he => (Rd.of_own oe (by omega)).ext he)).add (fun w => RdW w r2 V.length h2 V) (fun _ he => (ow.rd (by omega) (fun l hl => Nat.le_trans (LV2.out l hl) (by omega))).ext he)); clear hb oe ow))
        | (go_at_call 8; go_must (refine (HBig.out _ S0.out.ext).mono ?_; rintro e w1 ⟨rfl, hb⟩; have S1 := Lib.hid (S0.out.call hb); have bz := (S1.out.blk 0 rfl).lt; have b0 := (S1.out.blk 0 rfl).cell 0; have b1 := (S1.out.blk 0 rfl).cell 1; have b2 := (S1.out.blk 0 rfl).cell 2; clear hb)))
      obtain ⟨X, hX⟩ : ∃ X, X = w5.alloc (.cells #[.int .i64 N, .slice q5 A.length k5, .slice r5 V.length m5] 25) := ⟨_, rfl⟩
      have SX := S5.out.al #[.int .i64 N, .slice q5 A.length k5, .slice r5 V.length m5] 25 w5.heap.size rfl
      have KX := K5.out.ext (Ext.alloc (Below.refl _ _) (.cells #[.int .i64 N, .slice q5 A.length k5, .slice r5 V.length m5] 25))
      rw [← hX] at SX KX ⊢
      clear hX
      have d0 := fun x : ExtOf X => x.ext.cell ((SX.blk 0 rfl).cell 0)
      have d1 := fun x : ExtOf X => x.ext.cell ((SX.blk 0 rfl).cell 1)
      have d2 := fun x : ExtOf X => x.ext.cell ((SX.blk 0 rfl).cell 2)
      have c0 := fun x : ExtOf X => x.ext.cell ((SX.blk 1 rfl).cell 0)
      have c1 := fun x : ExtOf X => x.ext.cell ((SX.blk 1 rfl).cell 1)
      have c2 := fun x : ExtOf X => x.ext.cell ((SX.blk 1 rfl).cell 2)
      have b0 := fun x : ExtOf X => x.ext.cell ((SX.blk 2 rfl).cell 0)
      have b1 := fun x : ExtOf X => x.ext.cell ((SX.blk 2 rfl).cell 1)
      have b2 := fun x : ExtOf X => x.ext.cell ((SX.blk 2 rfl).cell 2)
      have a0 := fun x : ExtOf X => x.ext.cell ((SX.blk 3 rfl).cell 0)
      have a1 := fun x : ExtOf X => x.ext.cell ((SX.blk 3 rfl).cell 1)
      have a2 := fun x : ExtOf X => x.ext.cell ((SX.blk 3 rfl).cell 2)
      have g0 := fun x : ExtOf X => x.ext.cell ((SX.blk 4 rfl).cell 0)
      have g1 := fun x : ExtOf X => x.ext.cell ((SX.blk 4 rfl).cell 1)
      have g2 := fun x : ExtOf X => x.ext.cell ((SX.blk 4 rfl).cell 2)
      have HCx := Lib.hid (fun x : ExtOf X => HCk.out x.val (Ext.trans SX.ext x.ext))
      have HIx := Lib.hid (fun x : ExtOf X => HIg.out x.val (Ext.trans SX.ext x.ext))
      have HIa := Lib.hid (fun x : ExtOf X => HI1.out q2 _ k2 r2 _ m2 h2 x.val ((KX.get 7 rfl).ext x.ext) ((KX.get 6 rfl).ext x.ext))
      have HIc := Lib.hid (fun x : ExtOf X => HI2.out q4 _ k4 r4 _ m4 h4 x.val ((KX.get 3 rfl).ext x.ext) ((KX.get 2 rfl).ext x.ext))
      have HS1 := Lib.hid (fun x : ExtOf X => Same02 N q2 _ k2 r2 _ m2 A h2 V N q3 _ k3 r3 _ m3 A h3 V x.val ((KX.get 7 rfl).ext x.ext) ((KX.get 6 rfl).ext x.ext) ((KX.get 5 rfl).ext x.ext) ((KX.get 4 rfl).ext x.ext))
      have HS2 := Lib.hid (fun x : ExtOf X => Same02 N q5 _ k5 r5 _ m5 A h5 V N q2 _ k2 r2 _ m2 A h2 V x.val ((KX.get 1 rfl).ext x.ext) ((KX.get 0 rfl).ext x.ext) ((KX.get 7 rfl).ext x.ext) ((KX.get 6 rfl).ext x.ext))
      have HS3 := Lib.hid (fun x : ExtOf X => Same02 N q2 _ k2 r2 _ m2 A h2 V N pe ne ce pw nw cw E hs W x.val ((KX.get 7 rfl).ext x.ext) ((KX.get 6 rfl).ext x.ext) ((KX.get 9 rfl).ext x.ext) ((KX.get 8 rfl).ext x.ext))
      rw [hself] at HS1 HS2
      rw [HSM.out] at HS3
      have SXH := Lib.hid SX
      clear SX KX
      go_wp2
      refine wp_region_ext (by kernel_rfl) (by kernel_rfl) ?_
      repeat (go_big_quiet_step ((first | (go_at_call 19; exact Calls.ext_of (Graphs _)) | (go_at_call 13; exact Calls.ext_of (HCx.out _)) | (go_at_call 15; first | with_reducible exact Calls.ext_of (HIa.out _) | with_reducible exact Calls.ext_of (HIc.out _) | with_reducible exact Calls.ext_of (HIx.out _)) | (go_at_call 12; first | with_reducible exact Calls.ext_of (HS1.out _) | with_reducible exact Calls.ext_of (HS2.out _) | with_reducible exact Calls.ext_of (HS3.out _)))))
      refine wpQuiet_nil ?_
      rintro w1 ⟨⟨_, hb1⟩, rfl⟩
      go_wp2
      go_ret
      exact ⟨rfl, Ext.trans SXH.out.ext hb1⟩
    · have hc' : checkB N E W = false := by simpa using hc
      rw [hc'] at HCk
      have HN := Lib.hid (fun W1 (h : Ext w W1) => NormalG_no N pe ne ce pw nw cw E hs W W1 (hE.ext h) (hW.ext h) hz hc')
      clear hE hW hz hc hc'
      go_enter Try.func7, Try.ntmps7
      go_wp2_with (first
        | (go_at_call 13; have _t := S3; go_must (refine (HCk.out _ S3.out.ext).mono ?_; rintro e w4 ⟨rfl, hb⟩; have S4 := Lib.hid (S3.out.call hb); have dz := (S4.out.blk 0 rfl).lt; have d0 := (S4.out.blk 0 rfl).cell 0; have d1 := (S4.out.blk 0 rfl).cell 1; have d2 := (S4.out.blk 0 rfl).cell 2; clear hb))
        | (go_at_call 19; have _t := S2; go_must (refine (Graphs _).mono ?_; rintro e w3 ⟨rfl, hb⟩; have S3 := Lib.hid ((S2.out.al #[.int .i64 0, .slice none 0 0, .slice none 0 0] 25 w2.heap.size rfl).call hb); have cz := (S3.out.blk 0 rfl).lt; have c0 := (S3.out.blk 0 rfl).cell 0; have c1 := (S3.out.blk 0 rfl).cell 1; have c2 := (S3.out.blk 0 rfl).cell 2; have gz := (S3.out.blk 1 rfl).lt; have g0 := (S3.out.blk 1 rfl).cell 0; have g1 := (S3.out.blk 1 rfl).cell 1; have g2 := (S3.out.blk 1 rfl).cell 2; clear hb))
        | (go_at_call 10; have _t := S1; go_must (refine (HN.out _ S1.out.ext).mono ?_; rintro e w2 ⟨rfl, hb⟩; have S2 := Lib.hid (S1.out.call hb); clear hb))
        | (go_at_call 8; go_must (refine (HBig.out _ S0.out.ext).mono ?_; rintro e w1 ⟨rfl, hb⟩; have S1 := Lib.hid (S0.out.call hb); have bz := (S1.out.blk 0 rfl).lt; have b0 := (S1.out.blk 0 rfl).cell 0; have b1 := (S1.out.blk 0 rfl).cell 1; have b2 := (S1.out.blk 0 rfl).cell 2; clear hb)))
      go_ret
      exact ⟨rfl, S4.out.ext⟩
end Go.Proofs.Ytlkngeflikecgaa
