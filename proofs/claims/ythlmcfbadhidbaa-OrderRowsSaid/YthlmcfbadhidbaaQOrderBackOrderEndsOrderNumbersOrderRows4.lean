/- Texts of this claim, one behind the other: LRows11, Open4. -/
import Derived.Test.YthlmcfbadhidbaaQOrderBackOrderEndsOrderNumbersOrderRows3
/- The law OrderRows: places stand in an order in which the number of their ways never rises. -/
namespace Go.Proofs.Ythlmcfbadhidbaa
open Go Go.RowKit
structure RowQ (c m : Nat) (i : Nat) (v : Value) (_ : World) : Prop where
  a : i = c → ∃ q d, v = .tuple #[.slice q m d, .bool true]
  b' : i = c + 1 → ∃ q d, v = .tuple #[.slice q m d, .bool true]
  c1 : i = c + 2 → ∃ q d, v = .slice q m d
  c2 : i = c + 3 → v = .bool true
  d1 : i = c + 4 → ∃ q d, v = .slice q m d
  d2 : i = c + 5 → v = .bool true
theorem RowQ.ofT {c m i : Nat} {v : Value} {w : World} (h : i = c ∨ i = c + 1) (hv : ∃ q d, v = .tuple #[.slice q m d, .bool true]) : RowQ c m i v w :=
  ⟨fun _ => hv, fun _ => hv, fun e => by omega, fun e => by omega, fun e => by omega, fun e => by omega⟩
theorem RowQ.ofS {c m i : Nat} {v : Value} {w : World} (h : i = c + 2 ∨ i = c + 4) (hv : ∃ q d, v = .slice q m d) : RowQ c m i v w :=
  ⟨fun e => by omega, fun e => by omega, fun _ => hv, fun e => by omega, fun _ => hv, fun e => by omega⟩
theorem RowQ.ofB {c m i : Nat} {v : Value} {w : World} (h : i = c + 3 ∨ i = c + 5) (hv : v = .bool true) : RowQ c m i v w :=
  ⟨fun e => by omega, fun e => by omega, fun e => by omega, fun _ => hv, fun e => by omega, fun _ => hv⟩
theorem row_way {O T R V : List Int} (hck : checkR O T R V = true) {n v : Nat} (hno : O.length = n + 1) (hv : v < n) : ((rowL O T v).length : Int) + (rowL R V v).length = wayN O R v ∧ (rowL O T v).length ≤ 2000 ∧ (rowL R V v).length ≤ 2000 := by
  obtain ⟨e1, e2, e3, e4⟩ := checkR_half hck
  have a := offOk_of (halfB_off e3)
  have b := offOk_of (halfB_off e4)
  have r1 := offB_parts (halfB_off e3)
  have r2 := offB_parts (halfB_off e4)
  have := a.lo v (by omega)
  have := a.le v (by omega)
  have := a.hi (v + 1) (by omega)
  have := b.lo v (by omega)
  have := b.le v (by omega)
  have := b.hi (v + 1) (by omega)
  unfold wayN rowL
  rw [List.length_take, List.length_drop, List.length_take, List.length_drop]
  omega
set_option maxRecDepth 100000 in
set_option maxHeartbeats 16000000 in
theorem lawRows11 (po : Option Addr) (no co : Nat) (O : List Int) (pt : Option Addr) (nt ct : Nat) (T : List Int) (pr : Option Addr) (nr cr : Nat) (R : List Int) (pv : Option Addr) (nv cv : Nat) (V : List Int) (w : World) (hO : Rd w 1 po no (encI O)) (hT : Rd w 1 pt nt (encI T)) (hR : Rd w 1 pr nr (encI R)) (hV : Rd w 1 pv nv (encI V)) (hct : nt ≤ ct) (hcv : nv ≤ cv) : Calls Try.prog 5 #[.agg #[.slice po no co, .slice pt nt ct, .slice pr nr cr, .slice pv nv cv]] w fun e w' => e = .returned (.bool true) ∧ Ext w w' := by
  have HBig := Lib.hid (fun W1 (h : Ext w W1) => Big04 po no co O pt nt ct T pr nr cr R pv nv cv V W1 (hO.ext h) (hT.ext h) (hR.ext h) (hV.ext h))
  have HC := Lib.hid (fun W1 (h : Ext w W1) => CheckR po no co O pt nt ct T pr nr cr R pv nv cv V W1 (hO.ext h) (hT.ext h) (hR.ext h) (hV.ext h) hct hcv)
  have S0 := Lib.hid ((Sep.start w).al #[.slice po no co, .slice pt nt ct, .slice pr nr cr, .slice pv nv cv] 34 w.heap.size rfl)
  cases hbig : bigR O T R V with
  | true =>
    rw [hbig] at HBig
    clear hO hT hR hV
    go_enter Try.func5, Try.ntmps5
    go_wp2_with (first | (go_at_call 7; go_must (refine (Orders11 _).mono ?_; rintro e wz ⟨rfl, hb1⟩; have SZ := Lib.hid (S1.out.call hb1); clear hb1)) | (go_at_call 12; go_must (refine (HBig.out _ S0.out.ext).mono ?_; rintro e w1 ⟨rfl, hb1⟩; have S1 := Lib.hid (S0.out.call hb1); have xz := (S1.out.blk 0 rfl).lt; have x0 := (S1.out.blk 0 rfl).cell 0; have x1 := (S1.out.blk 0 rfl).cell 1; have x2 := (S1.out.blk 0 rfl).cell 2; have x3 := (S1.out.blk 0 rfl).cell 3; clear hb1)))
    go_ret
    exact ⟨rfl, SZ.out.ext⟩
  | false =>
    rw [hbig] at HBig
    cases hck : checkR O T R V with
    | false =>
      rw [hck] at HC
      clear hO hT hR hV
      go_enter Try.func5, Try.ntmps5
      go_wp2_with (first | (go_at_call 7; go_must (refine (Orders11 _).mono ?_; rintro e wz ⟨rfl, hb1⟩; have SZ := Lib.hid (S2.out.call hb1); clear hb1)) | (go_at_call 13; go_must (refine (HC.out _ S1.out.ext).mono ?_; rintro e w2 ⟨rfl, hb1⟩; have S2 := Lib.hid (S1.out.call hb1); have yz := (S2.out.blk 0 rfl).lt; have y0 := (S2.out.blk 0 rfl).cell 0; have y1 := (S2.out.blk 0 rfl).cell 1; have y2 := (S2.out.blk 0 rfl).cell 2; have y3 := (S2.out.blk 0 rfl).cell 3; clear hb1)) | (go_at_call 12; go_must (refine (HBig.out _ S0.out.ext).mono ?_; rintro e w1 ⟨rfl, hb1⟩; have S1 := Lib.hid (S0.out.call hb1); have xz := (S1.out.blk 0 rfl).lt; have x0 := (S1.out.blk 0 rfl).cell 0; have x1 := (S1.out.blk 0 rfl).cell 1; have x2 := (S1.out.blk 0 rfl).cell 2; have x3 := (S1.out.blk 0 rfl).cell 3; clear hb1)))
      go_ret
      exact ⟨rfl, SZ.out.ext⟩
    | true =>
      rw [hck] at HC
      obtain ⟨e1, e2, e3, e4⟩ := checkR_half hck
      have r := offB_parts (halfB_off e3)
      have l1 := hO.nI
      obtain ⟨n, hno⟩ : ∃ n, O.length = n + 1 := ⟨O.length - 1, by omega⟩
      obtain rfl : no = n + 1 := by omega
      have hn : n ≤ 200 := by omega
      have hOB := byL_ord (O := O) (R := R) (n := n) fun v hv => way_rng hck hno hv
      have hBL : byR true O R = byL O R n := by unfold byR; rw [if_pos rfl, hno]; rfl
      have HB := Lib.hid (fun W1 (h : Ext w W1) => ByG po (n + 1) co O pt nt ct T pr nr cr R pv nv cv V W1 (hO.ext h) (hT.ext h) (hR.ext h) (hV.ext h) hct hcv)
      rw [hck, hBL] at HB
      have hlen := hOB.1
      rw [hlen] at HB
      have HB : Hid (∀ W1, Ext w W1 → Calls Try.prog 14 #[.agg #[.slice po (n + 1) co, .slice pt nt ct, .slice pr nr cr, .slice pv nv cv]] W1 fun e w' => ∃ q c, e = .returned (.tuple #[.slice q n c, .int .i64 0]) ∧ Sep W1 w' [.own 3 1 q n c (encI (byL O R n))]) := HB
      have HI : Hid (∀ W q c, Rd W 1 q n (encI (byL O R n)) → Calls Try.prog 10 #[.slice q n c, .int .i64 n] W fun e w' => e = .returned (.bool true) ∧ Ext W w') := fun W q c hr => by
        have := OrdIsG q n c (byL O R n) n W hr (by omega)
        have e : isN (byL O R n) (n:Int) = true := by
          unfold isN
          rw [hlen, decide_eq_true rfl, Bool.true_and, ordB_iff, hlen]
          exact hOB
        rw [e] at this
        exact this
      have HO : Hid (∀ (u : Nat), u < n → ∀ W1, Ext w W1 → Calls Try.prog 15 #[.agg #[.slice po (n + 1) co, .slice pt nt ct, .slice pr nr cr, .slice pv nv cv], .int .i64 u] W1 fun e w' => ∃ q c, e = .returned (.tuple #[.slice q (rowL O T u).length c, .bool true]) ∧ Sep W1 w' [.own 3 1 q (rowL O T u).length c (encI (rowL O T u))]) := fun u hu W1 h => by
        have := OutG po (n + 1) co O pt nt ct T pr nr cr R pv nv cv V W1 u (hO.ext h) (hT.ext h) (hR.ext h) (hV.ext h) hct hcv
        have oB : outB true O u = true := by unfold outB; simp; omega
        rw [hck, oB, outL_yes oB, Int.toNat_natCast] at this
        exact this
      have HN : Hid (∀ (u : Nat), u < n → ∀ W1, Ext w W1 → Calls Try.prog 16 #[.agg #[.slice po (n + 1) co, .slice pt nt ct, .slice pr nr cr, .slice pv nv cv], .int .i64 u] W1 fun e w' => ∃ q c, e = .returned (.tuple #[.slice q (rowL R V u).length c, .bool true]) ∧ Sep W1 w' [.own 3 1 q (rowL R V u).length c (encI (rowL R V u))]) := fun u hu W1 h => by
        have := InG po (n + 1) co O pt nt ct T pr nr cr R pv nv cv V W1 u (hO.ext h) (hT.ext h) (hR.ext h) (hV.ext h) hct hcv
        have oB : outB true R u = true := by unfold outB; simp; omega
        rw [hck, oB, outL_yes oB, Int.toNat_natCast] at this
        exact this
      have HF := Lib.hid (fun i (h : i + 1 < n) => byL_falls (O := O) (R := R) (n := n) (i := i) (by rw [hlen]; exact h))
      have HWY := Lib.hid (fun v (hv : v < n) => row_way hck hno hv)
      generalize byL O R n = L at *
      clear hO hT hR hV e1 e2 e3 e4 r l1 hno hck hOB hBL hlen hbig hct hcv
      go_enter Try.func5, Try.ntmps5
      go_wp2_with (first | (go_at_call 10; go_must (refine (HI.out _ _ _ (S3.out.rdx 0 rfl)).mono ?_; rintro e w4 ⟨rfl, hb1⟩; have S4 := Lib.hid (S3.out.call hb1); clear hb1)) | (go_at_call 14; go_must (refine (HB.out _ S2.out.ext).mono ?_; rintro e w3 ⟨q3, c3, rfl, Z⟩; have S3 := Lib.hid (S2.out.comp Z); have zz := (S3.out.blk 1 rfl).lt; have z0 := (S3.out.blk 1 rfl).cell 0; have z1 := (S3.out.blk 1 rfl).cell 1; have z2 := (S3.out.blk 1 rfl).cell 2; have z3 := (S3.out.blk 1 rfl).cell 3; clear Z)) | (go_at_call 13; go_must (refine (HC.out _ S1.out.ext).mono ?_; rintro e w2 ⟨rfl, hb1⟩; have S2 := Lib.hid (S1.out.call hb1); have yz := (S2.out.blk 0 rfl).lt; have y0 := (S2.out.blk 0 rfl).cell 0; have y1 := (S2.out.blk 0 rfl).cell 1; have y2 := (S2.out.blk 0 rfl).cell 2; have y3 := (S2.out.blk 0 rfl).cell 3; clear hb1)) | (go_at_call 12; go_must (refine (HBig.out _ S0.out.ext).mono ?_; rintro e w1 ⟨rfl, hb1⟩; have S1 := Lib.hid (S0.out.call hb1); have xz := (S1.out.blk 0 rfl).lt; have x0 := (S1.out.blk 0 rfl).cell 0; have x1 := (S1.out.blk 0 rfl).cell 1; have x2 := (S1.out.blk 0 rfl).cell 2; have x3 := (S1.out.blk 0 rfl).cell 3; clear hb1)))
      go_loopw [5, 6, 7, 8, 9, 10, 11, 12, 13, 14, 15] (fun i _ _ _ _ _ _ _ _ _ _ wr => ∃ k : Nat, (k + 1 ≤ n ∨ k = 0) ∧ i = .int .i64 ((k:Int) + 1) ∧ Sep w wr [.own 3 1 q3 n c3 (encI L), .blk w.heap.size 34 #[.slice po (n + 1) co, .slice pt nt ct, .slice pr nr cr, .slice pv nv cv]]) (fun i _ _ _ _ _ _ _ _ _ _ _ => n + 1 - (intOf i).toNat)
      case atStart => exact ⟨0, .inr rfl, by go_num, S4.out⟩
      case round =>
        clear S0 S1 S2 S3 S4 HB HI HBig HC
        obtain ⟨k, hk, rfl, S⟩ := hrel
        by_cases hlt : k + 1 < n
        · obtain ⟨a, b, ha, hb, ea, eb, hw⟩ := HF.out k hlt
          have w1 := HWY.out a ha
          have w2 := HWY.out b hb
          have HOA := Lib.hid (HO.out a ha)
          have HNA := Lib.hid (HN.out a ha)
          have HOB := Lib.hid (HO.out b hb)
          have HNB := Lib.hid (HN.out b hb)
          have hs : ((rowL O T b).length : Int) + (rowL R V b).length < (rowL O T a).length + (rowL R V a).length ∨ (((rowL O T a).length : Int) + (rowL R V a).length = (rowL O T b).length + (rowL R V b).length ∧ a < b) := by
            have := w1.1
            have := w2.1
            omega
          have w1a := w1.2.1
          have w1b := w1.2.2
          have w2a := w2.2.1
          have w2b := w2.2.2
          clear hw w1 w2
          generalize (rowL O T a).length = m1 at *
          generalize (rowL R V a).length = m2 at *
          generalize (rowL O T b).length = m3 at *
          generalize (rowL R V b).length = m4 at *
          have d1 : (0:Int) ≤ k := by omega
          have d2 : (k:Int) < n := by omega
          have d3 : (0:Int) ≤ (k:Int) + 1 := by omega
          have d4 : (k:Int) + 1 < n := by omega
          have d5 : decide ((m1:Int) + m2 < (m3:Int) + m4) = false := by
            rw [decide_eq_false_iff_not]
            omega
          have HS := Lib.hid hs
          clear hs
          have HE : Hid (nth L k = a ∧ nth L (k + 1) = b) := ⟨ea, eb⟩
          clear ea eb HF HWY
          have S5 := Lib.hid S
          clear S
          have yz := (S5.out.blk 1 rfl).lt; have y0 := (S5.out.blk 1 rfl).cell 0; have y1 := (S5.out.blk 1 rfl).cell 1; have y2 := (S5.out.blk 1 rfl).cell 2; have y3 := (S5.out.blk 1 rfl).cell 3
          have g1 := (S5.out.rdx 0 rfl).cI (k := k) (by omega)
          have p1 := (S5.out.rdx 0 rfl).ptr
          rw [HE.out.1] at g1
          go_wp2
          have u0 := fun x : ExtOf wr => x.ext.cell y0
          have u1 := fun x : ExtOf wr => x.ext.cell y1
          have u2 := fun x : ExtOf wr => x.ext.cell y2
          have u3 := fun x : ExtOf wr => x.ext.cell y3
          have u4 := fun x : ExtOf wr => x.ext.cell g1
          refine wp_region_mix [true, true, true, true, true, true, false, false, false, false, false, false] (RowQ 6 m1) (by kernel_rfl) (by kernel_rfl) (by kernel_rfl) (fun _ _ _ _ _ h => ⟨h.a, h.b', h.c1, h.c2, h.d1, h.d2⟩) ?_
          simp only [nfM]
          repeat (go_big_quiet_step ((fail)))
          refine wpQuiet_nil ⟨⟨fun vs W1 hE hd => ?_, fun vs W1 hE hd => ?_, fun vs W1 hE hd => ?_, fun vs W1 hE hd => ?_, fun vs W1 hE hd => ?_, fun vs W1 hE hd => ?_, trivial⟩, fun vs w6 hE hkn => ?_⟩
          · (simp [putM, execOp, go_sem]; exact (HOA.out _ (Ext.trans S5.out.ext hE)).mono fun e w' ⟨q, d, h1, Z⟩ => ⟨_, h1, RowQ.ofT (by simp) ⟨_, _, rfl⟩, Z.ext⟩)
          · (have k0 := RowQ.a (hd 6 (by decide +kernel) rfl) rfl; simp [putM, execOp, go_sem]; obtain ⟨q, d, k1⟩ := k0; (try simp [k1, go_sem, execOp]); exact ⟨RowQ.ofT (by simp) ⟨_, _, rfl⟩, Below.refl _ _⟩)
          · (have k0 := RowQ.b' (hd (6 + 1) (by decide +kernel) rfl) rfl; simp [putM, execOp, go_sem]; obtain ⟨q, d, k1⟩ := k0; (try simp [k1, go_sem, execOp]); exact ⟨RowQ.ofS (by simp) ⟨_, _, rfl⟩, Below.refl _ _⟩)
          · (have k0 := RowQ.b' (hd (6 + 1) (by decide +kernel) rfl) rfl; simp [putM, execOp, go_sem]; obtain ⟨q, d, k1⟩ := k0; (try simp [k1, go_sem, execOp]); exact ⟨RowQ.ofB (by simp) rfl, Below.refl _ _⟩)
          · (have k0 := RowQ.c1 (hd (6 + 2) (by decide +kernel) rfl) rfl; simp [putM, execOp, go_sem]; obtain ⟨q, d, k1⟩ := k0; (try simp [k1, go_sem, execOp]); exact ⟨RowQ.ofS (by simp) ⟨_, _, rfl⟩, Below.refl _ _⟩)
          · (have k1 := RowQ.c2 (hd (6 + 3) (by decide +kernel) rfl) rfl; simp [putM, execOp, go_sem, k1]; exact ⟨RowQ.ofB (by simp) rfl, Below.refl _ _⟩)
          simp only [knowM] at hkn
          obtain ⟨q6, c6, k1⟩ := RowQ.d1 hkn.2.2.2.2.1 rfl
          have k2 := RowQ.d2 hkn.2.2.2.2.2.1 rfl
          have S6 := Lib.hid (S5.out.call hE)
          simp only [putM, k1, k2, List.length_cons, List.length_nil, Nat.zero_add, Nat.reduceAdd, List.drop_succ_cons, List.drop_zero]
          try simp [Act.put]
          clear u0 u1 u2 u3 u4 k1 k2 hE y0 y1 y2 y3 yz g1 p1 hkn
          have yz := (S6.out.blk 1 rfl).lt; have y0 := (S6.out.blk 1 rfl).cell 0; have y1 := (S6.out.blk 1 rfl).cell 1; have y2 := (S6.out.blk 1 rfl).cell 2; have y3 := (S6.out.blk 1 rfl).cell 3
          have g1 := (S6.out.rdx 0 rfl).cI (k := k) (by omega)
          have p1 := (S6.out.rdx 0 rfl).ptr
          rw [HE.out.1] at g1
          go_wp2
          have u0 := fun x : ExtOf w6 => x.ext.cell y0
          have u1 := fun x : ExtOf w6 => x.ext.cell y1
          have u2 := fun x : ExtOf w6 => x.ext.cell y2
          have u3 := fun x : ExtOf w6 => x.ext.cell y3
          have u4 := fun x : ExtOf w6 => x.ext.cell g1
          refine wp_region_mix [true, true, true, true, true, true, false, false, false, false, false, false] (RowQ 6 m2) (by kernel_rfl) (by kernel_rfl) (by kernel_rfl) (fun _ _ _ _ _ h => ⟨h.a, h.b', h.c1, h.c2, h.d1, h.d2⟩) ?_
          simp only [nfM]
          repeat (go_big_quiet_step ((fail)))
          refine wpQuiet_nil ⟨⟨fun vs W1 hE hd => ?_, fun vs W1 hE hd => ?_, fun vs W1 hE hd => ?_, fun vs W1 hE hd => ?_, fun vs W1 hE hd => ?_, fun vs W1 hE hd => ?_, trivial⟩, fun vs w7 hE hkn => ?_⟩
          · (simp [putM, execOp, go_sem]; exact (HNA.out _ (Ext.trans S6.out.ext hE)).mono fun e w' ⟨q, d, h1, Z⟩ => ⟨_, h1, RowQ.ofT (by simp) ⟨_, _, rfl⟩, Z.ext⟩)
          · (have k0 := RowQ.a (hd 6 (by decide +kernel) rfl) rfl; simp [putM, execOp, go_sem]; obtain ⟨q, d, k1⟩ := k0; (try simp [k1, go_sem, execOp]); exact ⟨RowQ.ofT (by simp) ⟨_, _, rfl⟩, Below.refl _ _⟩)
          · (have k0 := RowQ.b' (hd (6 + 1) (by decide +kernel) rfl) rfl; simp [putM, execOp, go_sem]; obtain ⟨q, d, k1⟩ := k0; (try simp [k1, go_sem, execOp]); exact ⟨RowQ.ofS (by simp) ⟨_, _, rfl⟩, Below.refl _ _⟩)
          · (have k0 := RowQ.b' (hd (6 + 1) (by decide +kernel) rfl) rfl; simp [putM, execOp, go_sem]; obtain ⟨q, d, k1⟩ := k0; (try simp [k1, go_sem, execOp]); exact ⟨RowQ.ofB (by simp) rfl, Below.refl _ _⟩)
          · (have k0 := RowQ.c1 (hd (6 + 2) (by decide +kernel) rfl) rfl; simp [putM, execOp, go_sem]; obtain ⟨q, d, k1⟩ := k0; (try simp [k1, go_sem, execOp]); exact ⟨RowQ.ofS (by simp) ⟨_, _, rfl⟩, Below.refl _ _⟩)
          · (have k1 := RowQ.c2 (hd (6 + 3) (by decide +kernel) rfl) rfl; simp [putM, execOp, go_sem, k1]; exact ⟨RowQ.ofB (by simp) rfl, Below.refl _ _⟩)
          simp only [knowM] at hkn
          obtain ⟨q7, c7, k1⟩ := RowQ.d1 hkn.2.2.2.2.1 rfl
          have k2 := RowQ.d2 hkn.2.2.2.2.2.1 rfl
          have S7 := Lib.hid (S6.out.call hE)
          simp only [putM, k1, k2, List.length_cons, List.length_nil, Nat.zero_add, Nat.reduceAdd, List.drop_succ_cons, List.drop_zero]
          try simp [Act.put]
          clear u0 u1 u2 u3 u4 k1 k2 hE y0 y1 y2 y3 yz g1 p1 hkn
          have yz := (S7.out.blk 1 rfl).lt; have y0 := (S7.out.blk 1 rfl).cell 0; have y1 := (S7.out.blk 1 rfl).cell 1; have y2 := (S7.out.blk 1 rfl).cell 2; have y3 := (S7.out.blk 1 rfl).cell 3
          have g1 := (S7.out.rdx 0 rfl).cI (k := k + 1) (by omega)
          have p1 := (S7.out.rdx 0 rfl).ptr
          rw [HE.out.2] at g1
          go_wp2
          have u0 := fun x : ExtOf w7 => x.ext.cell y0
          have u1 := fun x : ExtOf w7 => x.ext.cell y1
          have u2 := fun x : ExtOf w7 => x.ext.cell y2
          have u3 := fun x : ExtOf w7 => x.ext.cell y3
          have u4 := fun x : ExtOf w7 => x.ext.cell g1
          refine wp_region_mix [true, true, true, true, true, false, false, false, false, false, false] (RowQ 5 m3) (by kernel_rfl) (by kernel_rfl) (by kernel_rfl) (fun _ _ _ _ _ h => ⟨h.a, h.b', h.c1, h.c2, h.d1, h.d2⟩) ?_
          simp only [nfM]
          repeat (go_big_quiet_step ((fail)))
          refine wpQuiet_nil ⟨⟨fun vs W1 hE hd => ?_, fun vs W1 hE hd => ?_, fun vs W1 hE hd => ?_, fun vs W1 hE hd => ?_, fun vs W1 hE hd => ?_, fun vs W1 hE hd => ?_, trivial⟩, fun vs w8 hE hkn => ?_⟩
          · (simp [putM, execOp, go_sem]; exact (HOB.out _ (Ext.trans S7.out.ext hE)).mono fun e w' ⟨q, d, h1, Z⟩ => ⟨_, h1, RowQ.ofT (by simp) ⟨_, _, rfl⟩, Z.ext⟩)
          · (have k0 := RowQ.a (hd 5 (by decide +kernel) rfl) rfl; simp [putM, execOp, go_sem]; obtain ⟨q, d, k1⟩ := k0; (try simp [k1, go_sem, execOp]); exact ⟨RowQ.ofT (by simp) ⟨_, _, rfl⟩, Below.refl _ _⟩)
          · (have k0 := RowQ.b' (hd (5 + 1) (by decide +kernel) rfl) rfl; simp [putM, execOp, go_sem]; obtain ⟨q, d, k1⟩ := k0; (try simp [k1, go_sem, execOp]); exact ⟨RowQ.ofS (by simp) ⟨_, _, rfl⟩, Below.refl _ _⟩)
          · (have k0 := RowQ.b' (hd (5 + 1) (by decide +kernel) rfl) rfl; simp [putM, execOp, go_sem]; obtain ⟨q, d, k1⟩ := k0; (try simp [k1, go_sem, execOp]); exact ⟨RowQ.ofB (by simp) rfl, Below.refl _ _⟩)
          · (have k0 := RowQ.c1 (hd (5 + 2) (by decide +kernel) rfl) rfl; simp [putM, execOp, go_sem]; obtain ⟨q, d, k1⟩ := k0; (try simp [k1, go_sem, execOp]); exact ⟨RowQ.ofS (by simp) ⟨_, _, rfl⟩, Below.refl _ _⟩)
          · (have k1 := RowQ.c2 (hd (5 + 3) (by decide +kernel) rfl) rfl; simp [putM, execOp, go_sem, k1]; exact ⟨RowQ.ofB (by simp) rfl, Below.refl _ _⟩)
          simp only [knowM] at hkn
          obtain ⟨q8, c8, k1⟩ := RowQ.d1 hkn.2.2.2.2.1 rfl
          have k2 := RowQ.d2 hkn.2.2.2.2.2.1 rfl
          have S8 := Lib.hid (S7.out.call hE)
          simp only [putM, k1, k2, List.length_cons, List.length_nil, Nat.zero_add, Nat.reduceAdd, List.drop_succ_cons, List.drop_zero]
          try simp [Act.put]
          clear u0 u1 u2 u3 u4 k1 k2 hE y0 y1 y2 y3 yz g1 p1 hkn
          have yz := (S8.out.blk 1 rfl).lt; have y0 := (S8.out.blk 1 rfl).cell 0; have y1 := (S8.out.blk 1 rfl).cell 1; have y2 := (S8.out.blk 1 rfl).cell 2; have y3 := (S8.out.blk 1 rfl).cell 3
          have g1 := (S8.out.rdx 0 rfl).cI (k := k + 1) (by omega)
          have p1 := (S8.out.rdx 0 rfl).ptr
          rw [HE.out.2] at g1
          go_wp2
          have u0 := fun x : ExtOf w8 => x.ext.cell y0
          have u1 := fun x : ExtOf w8 => x.ext.cell y1
          have u2 := fun x : ExtOf w8 => x.ext.cell y2
          have u3 := fun x : ExtOf w8 => x.ext.cell y3
          have u4 := fun x : ExtOf w8 => x.ext.cell g1
          refine wp_region_mix [true, true, true, true, true, false, false, false, false, false, false] (RowQ 5 m4) (by kernel_rfl) (by kernel_rfl) (by kernel_rfl) (fun _ _ _ _ _ h => ⟨h.a, h.b', h.c1, h.c2, h.d1, h.d2⟩) ?_
          simp only [nfM]
          repeat (go_big_quiet_step ((fail)))
          refine wpQuiet_nil ⟨⟨fun vs W1 hE hd => ?_, fun vs W1 hE hd => ?_, fun vs W1 hE hd => ?_, fun vs W1 hE hd => ?_, fun vs W1 hE hd => ?_, fun vs W1 hE hd => ?_, trivial⟩, fun vs w9 hE hkn => ?_⟩
          · (simp [putM, execOp, go_sem]; exact (HNB.out _ (Ext.trans S8.out.ext hE)).mono fun e w' ⟨q, d, h1, Z⟩ => ⟨_, h1, RowQ.ofT (by simp) ⟨_, _, rfl⟩, Z.ext⟩)
          · (have k0 := RowQ.a (hd 5 (by decide +kernel) rfl) rfl; simp [putM, execOp, go_sem]; obtain ⟨q, d, k1⟩ := k0; (try simp [k1, go_sem, execOp]); exact ⟨RowQ.ofT (by simp) ⟨_, _, rfl⟩, Below.refl _ _⟩)
          · (have k0 := RowQ.b' (hd (5 + 1) (by decide +kernel) rfl) rfl; simp [putM, execOp, go_sem]; obtain ⟨q, d, k1⟩ := k0; (try simp [k1, go_sem, execOp]); exact ⟨RowQ.ofS (by simp) ⟨_, _, rfl⟩, Below.refl _ _⟩)
          · (have k0 := RowQ.b' (hd (5 + 1) (by decide +kernel) rfl) rfl; simp [putM, execOp, go_sem]; obtain ⟨q, d, k1⟩ := k0; (try simp [k1, go_sem, execOp]); exact ⟨RowQ.ofB (by simp) rfl, Below.refl _ _⟩)
          · (have k0 := RowQ.c1 (hd (5 + 2) (by decide +kernel) rfl) rfl; simp [putM, execOp, go_sem]; obtain ⟨q, d, k1⟩ := k0; (try simp [k1, go_sem, execOp]); exact ⟨RowQ.ofS (by simp) ⟨_, _, rfl⟩, Below.refl _ _⟩)
          · (have k1 := RowQ.c2 (hd (5 + 3) (by decide +kernel) rfl) rfl; simp [putM, execOp, go_sem, k1]; exact ⟨RowQ.ofB (by simp) rfl, Below.refl _ _⟩)
          simp only [knowM] at hkn
          obtain ⟨q9, c9, k1⟩ := RowQ.d1 hkn.2.2.2.2.1 rfl
          have k2 := RowQ.d2 hkn.2.2.2.2.2.1 rfl
          have S9 := Lib.hid (S8.out.call hE)
          simp only [putM, k1, k2, List.length_cons, List.length_nil, Nat.zero_add, Nat.reduceAdd, List.drop_succ_cons, List.drop_zero]
          try simp [Act.put]
          clear u0 u1 u2 u3 u4 k1 k2 hE y0 y1 y2 y3 yz g1 p1 hkn
          have g1 := (S9.out.rdx 0 rfl).cI (k := k) (by omega)
          have g2 := (S9.out.rdx 0 rfl).cI (k := k + 1) (by omega)
          rw [HE.out.1] at g1
          rw [HE.out.2] at g2
          have p1 := (S9.out.rdx 0 rfl).ptr
          by_cases hmm : (m1:Int) + m2 = (m3:Int) + m4
          · have f1 : (((m1:Int) + m2) == ((m3:Int) + m4)) = true := by simpa using hmm
            have hab : a < b := by have := HS.out; omega
            have f2 : decide ((b:Int) ≤ a) = false := by simp; omega
            have f3 : decide (b ≤ a) = false := by simp; omega
            have f4 : ((a:Int) < b) := by omega
            clear hmm hab
            go_wp2
            have u1 := fun x : ExtOf w9 => x.ext.cell g1
            have u2 := fun x : ExtOf w9 => x.ext.cell g2
            refine wp_region_ext (by kernel_rfl) (by kernel_rfl) ?_
            repeat (go_big_quiet_step ((fail)))
            refine wpQuiet_nil ?_
            rintro w10 ⟨⟨_, hb10⟩, rfl⟩
            have S10 := Lib.hid (S9.out.call hb10)
            clear u1 u2 g1 g2
            go_wp2
            go_roundw
            case rel => exact ⟨k + 1, by omega, by go_num, S10.out⟩
            case measure => simp [intOf]; omega
          · have f1 : (((m1:Int) + m2) == ((m3:Int) + m4)) = false := by simpa using hmm
            clear hmm
            go_wp2
            have u1 := fun x : ExtOf w9 => x.ext.cell g1
            have u2 := fun x : ExtOf w9 => x.ext.cell g2
            refine wp_region_ext (by kernel_rfl) (by kernel_rfl) ?_
            repeat (go_big_quiet_step ((fail)))
            refine wpQuiet_nil ?_
            rintro w10 ⟨⟨_, hb10⟩, rfl⟩
            have S10 := Lib.hid (S9.out.call hb10)
            clear u1 u2 g1 g2
            go_wp2
            go_roundw
            case rel => exact ⟨k + 1, by omega, by go_num, S10.out⟩
            case measure => simp [intOf]; omega
        · have d1 : decide ((k:Int) + 1 < n) = false := by simp; omega
          have SH := Lib.hid S; clear S
          go_wp2_with (go_at_call 7; go_must (refine (Orders11 _).mono ?_; rintro e wz ⟨rfl, hb1⟩; have SZ := Lib.hid (SH.out.call hb1); clear hb1))
          go_ret
          exact ⟨rfl, SZ.out.ext⟩
end Go.Proofs.Ythlmcfbadhidbaa
/- An argument that is rows, opened. -/
namespace Go.Proofs.Ythlmcfbadhidbaa
open Go Go.RowKit Go.ChangeShapes Go.WideShapes Go.ChangeAt Go.Deep Go.Joins
section
variable {H : Type} {enc : TypeId × Value → H} {w : World} {base : Nat} {spare : Nat → Bool} {held : Bool}
set_option maxRecDepth 100000 in
theorem open_rowsarg {r : Reach} {b0 : Nat} {v : Value} {d : DataW H} {p : List MemPlace} (hv : Value.okWide Try.prog w r b0 34 v) (h : DataW.Trod enc Try.prog w base spare held 34 v d p) :
    ∃ po no co O pt nt ct T pr nr cr R pv nv cv V, v = .agg #[.slice po no co, .slice pt nt ct, .slice pr nr cr, .slice pv nv cv] ∧ Rd w 1 po no (encI O) ∧ Rd w 1 pt nt (encI T) ∧ Rd w 1 pr nr (encI R) ∧ Rd w 1 pv nv (encI V) ∧ no ≤ co ∧ nt ≤ ct ∧ nr ≤ cr ∧ nv ≤ cv := by
  obtain ⟨v0, v1, v2, v3, y0, y1, y2, y3, n, rfl, _, _, t0, t1, t2, t3⟩ := open_agg4 Try.underlying34 (by kernel_rfl) (by kernel_rfl) hv h
  obtain ⟨po, no, co, O, rfl, c0, h0, _⟩ := trod_ints Try.underlying23 t0
  obtain ⟨pt, nt, ct, T, rfl, c1, h1, _⟩ := trod_ints Try.underlying23 t1
  obtain ⟨pr, nr, cr, R, rfl, c2, h2, _⟩ := trod_ints Try.underlying23 t2
  obtain ⟨pv, nv, cv, V, rfl, c3, h3, _⟩ := trod_ints Try.underlying23 t3
  exact ⟨po, no, co, O, pt, nt, ct, T, pr, nr, cr, R, pv, nv, cv, V, rfl, h0, h1, h2, h3, c0, c1, c2, c3⟩
end
end Go.Proofs.Ythlmcfbadhidbaa
