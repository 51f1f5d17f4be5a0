/- Texts of this claim, one behind the other: LSelf12, LTurn12. -/
import Derived.Test.YthlmcfbadhidbaaGreatQLabelBuildsLabelDistLabelSelfLabelTurned5
/- The law LabelSelf: each hit is a distance, each place its own hub. -/
namespace Go.Proofs.YthlmcfbadhidbaaGreat
open Go Go.RowKit
theorem lab_len {nx : Nat → List Int} {n : Nat} {L : List Int} {v : Nat} (hv : v < n) (hn : n ≤ 200) : (nth (labT nx n L n) v).length ≤ 200 := by
  rw [labT_nth hv]; exact Nat.le_trans (labI_len ..) hn
set_option maxRecDepth 100000 in
set_option maxHeartbeats 8000000 in
theorem lawSelf12 (po : Option Addr) (no co : Nat) (O : List Int) (pt : Option Addr) (nt ct : Nat) (T : List Int) (pr : Option Addr) (nr cr : Nat) (R : List Int) (pv : Option Addr) (nv cv : Nat) (V : List Int) (w : World) (hO : Rd w 1 po no (encI O)) (hT : Rd w 1 pt nt (encI T)) (hR : Rd w 1 pr nr (encI R)) (hV : Rd w 1 pv nv (encI V)) (hct : nt ≤ ct) (hcv : nv ≤ cv) : Calls Tryz.prog 9 #[.agg #[.slice po no co, .slice pt nt ct, .slice pr nr cr, .slice pv nv cv]] w fun e w' => e = .returned (.bool true) ∧ Ext w w' := by
  have HBig := Lib.hid (fun W1 (h : Ext w W1) => Big04 po no co O pt nt ct T pr nr cr R pv nv cv V W1 (hO.ext h) (hT.ext h) (hR.ext h) (hV.ext h))
  have S0 := Lib.hid ((Sep.start w).al #[.slice po no co, .slice pt nt ct, .slice pr nr cr, .slice pv nv cv] 24 w.heap.size rfl)
  have lO := hO.nI
  have pz := hO.small
  cases hck : checkR O T R V with
  | false =>
    have HBu := Lib.hid (fun W1 (h : Ext w W1) => BuildG_no po no co O pt nt ct T pr nr cr R pv nv cv V W1 (hO.ext h) (hT.ext h) (hR.ext h) (hV.ext h) hct hcv hck)
    clear hO hT hR hV hct hcv lO
    cases hbig : bigR O T R V with
    | true =>
      rw [hbig] at HBig
      clear hbig
      go_enter Tryz.func9, Tryz.ntmps9
      go_wp2_with (first | (go_at_call 28; have _t := S2; go_must (refine (Labels12 _).mono ?_; rintro e w3 ⟨rfl, hb⟩; have S3 := Lib.hid (S2.out.call hb); clear hb)) | (go_at_call 10; have _t := S1; go_must (refine (HBig.out _ S1.out.ext).mono ?_; rintro e w2 ⟨rfl, hb⟩; have Z2 := Lib.hid hb; have S2 := Lib.hid (S1.out.call hb); have b0 := (S2.out.blk 0 rfl).cell 0; have b1 := (S2.out.blk 0 rfl).cell 1; have bz := (S2.out.blk 0 rfl).lt; have y0 := (S2.out.blk 1 rfl).cell 0; have y1 := (S2.out.blk 1 rfl).cell 1; have y2 := (S2.out.blk 1 rfl).cell 2; have y3 := (S2.out.blk 1 rfl).cell 3; have yz := (S2.out.blk 1 rfl).lt; clear hb)) | (go_at_call 26; go_must (refine (HBu.out _ S0.out.ext).mono ?_; rintro e w1 ⟨rfl, hb⟩; have S1 := Lib.hid ((S0.out.call hb).al #[.slice none 0 0, .slice none 0 0] 42 w1.heap.size rfl); have a0 := (S1.out.blk 0 rfl).cell 0; have a1 := (S1.out.blk 0 rfl).cell 1; have az := (S1.out.blk 0 rfl).lt; have x0 := (S1.out.blk 1 rfl).cell 0; have x1 := (S1.out.blk 1 rfl).cell 1; have x2 := (S1.out.blk 1 rfl).cell 2; have x3 := (S1.out.blk 1 rfl).cell 3; have xz := (S1.out.blk 1 rfl).lt; clear hb)))
      go_ret
      exact ⟨rfl, S3.out.ext⟩
    | false =>
      rw [hbig] at HBig
      clear hbig
      by_cases hn : (30:Int) < no
      · have c1 : decide ((30:Int) < no) = true := by simpa using hn
        clear hn
        go_enter Tryz.func9, Tryz.ntmps9
        go_wp2_with (first | (go_at_call 28; have _t := S2; go_must (refine (Labels12 _).mono ?_; rintro e w3 ⟨rfl, hb⟩; have S3 := Lib.hid (S2.out.call hb); clear hb)) | (go_at_call 10; have _t := S1; go_must (refine (HBig.out _ S1.out.ext).mono ?_; rintro e w2 ⟨rfl, hb⟩; have Z2 := Lib.hid hb; have S2 := Lib.hid (S1.out.call hb); have b0 := (S2.out.blk 0 rfl).cell 0; have b1 := (S2.out.blk 0 rfl).cell 1; have bz := (S2.out.blk 0 rfl).lt; have y0 := (S2.out.blk 1 rfl).cell 0; have y1 := (S2.out.blk 1 rfl).cell 1; have y2 := (S2.out.blk 1 rfl).cell 2; have y3 := (S2.out.blk 1 rfl).cell 3; have yz := (S2.out.blk 1 rfl).lt; clear hb)) | (go_at_call 26; go_must (refine (HBu.out _ S0.out.ext).mono ?_; rintro e w1 ⟨rfl, hb⟩; have S1 := Lib.hid ((S0.out.call hb).al #[.slice none 0 0, .slice none 0 0] 42 w1.heap.size rfl); have a0 := (S1.out.blk 0 rfl).cell 0; have a1 := (S1.out.blk 0 rfl).cell 1; have az := (S1.out.blk 0 rfl).lt; have x0 := (S1.out.blk 1 rfl).cell 0; have x1 := (S1.out.blk 1 rfl).cell 1; have x2 := (S1.out.blk 1 rfl).cell 2; have x3 := (S1.out.blk 1 rfl).cell 3; have xz := (S1.out.blk 1 rfl).lt; clear hb)))
        go_ret
        exact ⟨rfl, S3.out.ext⟩
      · have c1 : decide ((30:Int) < no) = false := by simpa using hn
        clear hn
        go_enter Tryz.func9, Tryz.ntmps9
        go_wp2_with (first | (go_at_call 28; have _t := S2; go_must (refine (Labels12 _).mono ?_; rintro e w3 ⟨rfl, hb⟩; have S3 := Lib.hid (S2.out.call hb); clear hb)) | (go_at_call 10; have _t := S1; go_must (refine (HBig.out _ S1.out.ext).mono ?_; rintro e w2 ⟨rfl, hb⟩; have Z2 := Lib.hid hb; have S2 := Lib.hid (S1.out.call hb); have b0 := (S2.out.blk 0 rfl).cell 0; have b1 := (S2.out.blk 0 rfl).cell 1; have bz := (S2.out.blk 0 rfl).lt; have y0 := (S2.out.blk 1 rfl).cell 0; have y1 := (S2.out.blk 1 rfl).cell 1; have y2 := (S2.out.blk 1 rfl).cell 2; have y3 := (S2.out.blk 1 rfl).cell 3; have yz := (S2.out.blk 1 rfl).lt; clear hb)) | (go_at_call 26; go_must (refine (HBu.out _ S0.out.ext).mono ?_; rintro e w1 ⟨rfl, hb⟩; have S1 := Lib.hid ((S0.out.call hb).al #[.slice none 0 0, .slice none 0 0] 42 w1.heap.size rfl); have a0 := (S1.out.blk 0 rfl).cell 0; have a1 := (S1.out.blk 0 rfl).cell 1; have az := (S1.out.blk 0 rfl).lt; have x0 := (S1.out.blk 1 rfl).cell 0; have x1 := (S1.out.blk 1 rfl).cell 1; have x2 := (S1.out.blk 1 rfl).cell 2; have x3 := (S1.out.blk 1 rfl).cell 3; have xz := (S1.out.blk 1 rfl).lt; clear hb)))
        go_ret
        exact ⟨rfl, S3.out.ext⟩
  | true =>
    have r := offB_parts (halfB_off (checkR_half hck).2.2.1)
    obtain ⟨n, hno⟩ : ∃ n, O.length = n + 1 := ⟨O.length - 1, by omega⟩
    have HBu := Lib.hid (fun W1 (h : Ext w W1) => BuildRd po no co O pt nt ct T pr nr cr R pv nv cv V n W1 (hO.ext h) (hT.ext h) (hR.ext h) (hV.ext h) hct hcv hck hno)
    have HDs := Lib.hid (fun (a b : Nat) W1 (h : Ext w W1) (ha : a < n) (hb : b < n) => DistG_yes po no co O pt nt ct T pr nr cr R pv nv cv V n a b W1 (hO.ext h) (hT.ext h) (hR.ext h) (hV.ext h) hct hcv hck hno ha hb)
    have HSf := fun (v : Nat) (hv : v < n) => lab_selfs hck hno hv
    have HLf := fun (v : Nat) (hv : v < n) => (⟨lab_len hv (by omega), lab_len hv (by omega)⟩ : (nth (labT (rowL R V) n (byL O R n) n) v).length ≤ 200 ∧ (nth (labT (rowL O T) n (byL O R n) n) v).length ≤ 200)
    have HHo := fun (v j : Nat) (hv : v < n) => lab_hit hck hno hv (j := j) false
    have HHi := fun (v j : Nat) (hv : v < n) => lab_hit hck hno hv (j := j) true
    simp only [Bool.false_eq_true, if_false, if_true] at HHo HHi
    have hn1 : 1 ≤ n ∧ n ≤ 200 ∧ no = n + 1 := by omega
    obtain ⟨g1, g2, rfl⟩ := hn1
    clear hO hT hR hV hct hcv lO r hck
    generalize labT (rowL R V) n (byL O R n) n = A at *
    generalize labT (rowL O T) n (byL O R n) n = B at *
    generalize lev (rowL O T) n = D at *
    cases hbig : bigR O T R V with
    | true =>
      rw [hbig] at HBig
      clear hbig HSf HLf HHo HHi
      go_enter Tryz.func9, Tryz.ntmps9
      go_wp2_with (first | (go_at_call 28; have _t := S2; go_must (refine (Labels12 _).mono ?_; rintro e w3 ⟨rfl, hb⟩; have S3 := Lib.hid (S2.out.call hb); clear hb)) | (go_at_call 10; have _t := S1; go_must (refine (HBig.out _ S1.out.ext).mono ?_; rintro e w2 ⟨rfl, hb⟩; have Z2 := Lib.hid hb; have S2 := Lib.hid (S1.out.call hb); have b0 := (S2.out.blk 0 rfl).cell 0; have b1 := (S2.out.blk 0 rfl).cell 1; have bz := (S2.out.blk 0 rfl).lt; have y0 := (S2.out.blk 1 rfl).cell 0; have y1 := (S2.out.blk 1 rfl).cell 1; have y2 := (S2.out.blk 1 rfl).cell 2; have y3 := (S2.out.blk 1 rfl).cell 3; have yz := (S2.out.blk 1 rfl).lt; clear hb)) | (go_at_call 26; go_must (refine (HBu.out _ S0.out.ext).mono ?_; rintro e w1 ⟨qO, cO, qI, cI, HO, HI, rfl, ra, rb, hb⟩; have RA := Lib.hid (ra.ext (Ext.alloc (Below.refl _ _) (.cells #[.slice qO n cO, .slice qI n cI] 42))); have RB := Lib.hid (rb.ext (Ext.alloc (Below.refl _ _) (.cells #[.slice qO n cO, .slice qI n cI] 42))); have S1 := Lib.hid ((S0.out.call hb).al #[.slice qO n cO, .slice qI n cI] 42 w1.heap.size rfl); have a0 := (S1.out.blk 0 rfl).cell 0; have a1 := (S1.out.blk 0 rfl).cell 1; have az := (S1.out.blk 0 rfl).lt; have x0 := (S1.out.blk 1 rfl).cell 0; have x1 := (S1.out.blk 1 rfl).cell 1; have x2 := (S1.out.blk 1 rfl).cell 2; have x3 := (S1.out.blk 1 rfl).cell 3; have xz := (S1.out.blk 1 rfl).lt; clear hb ra rb)))
      go_ret
      exact ⟨rfl, S3.out.ext⟩
    | false =>
      rw [hbig] at HBig
      clear hbig
      by_cases hn : (30:Int) < (n:Int) + 1
      · have c1 : decide ((30:Int) < (n:Int) + 1) = true := by simpa using hn
        clear hn HSf HLf HHo HHi
        go_enter Tryz.func9, Tryz.ntmps9
        go_wp2_with (first | (go_at_call 28; have _t := S2; go_must (refine (Labels12 _).mono ?_; rintro e w3 ⟨rfl, hb⟩; have S3 := Lib.hid (S2.out.call hb); clear hb)) | (go_at_call 10; have _t := S1; go_must (refine (HBig.out _ S1.out.ext).mono ?_; rintro e w2 ⟨rfl, hb⟩; have Z2 := Lib.hid hb; have S2 := Lib.hid (S1.out.call hb); have b0 := (S2.out.blk 0 rfl).cell 0; have b1 := (S2.out.blk 0 rfl).cell 1; have bz := (S2.out.blk 0 rfl).lt; have y0 := (S2.out.blk 1 rfl).cell 0; have y1 := (S2.out.blk 1 rfl).cell 1; have y2 := (S2.out.blk 1 rfl).cell 2; have y3 := (S2.out.blk 1 rfl).cell 3; have yz := (S2.out.blk 1 rfl).lt; clear hb)) | (go_at_call 26; go_must (refine (HBu.out _ S0.out.ext).mono ?_; rintro e w1 ⟨qO, cO, qI, cI, HO, HI, rfl, ra, rb, hb⟩; have RA := Lib.hid (ra.ext (Ext.alloc (Below.refl _ _) (.cells #[.slice qO n cO, .slice qI n cI] 42))); have RB := Lib.hid (rb.ext (Ext.alloc (Below.refl _ _) (.cells #[.slice qO n cO, .slice qI n cI] 42))); have S1 := Lib.hid ((S0.out.call hb).al #[.slice qO n cO, .slice qI n cI] 42 w1.heap.size rfl); have a0 := (S1.out.blk 0 rfl).cell 0; have a1 := (S1.out.blk 0 rfl).cell 1; have az := (S1.out.blk 0 rfl).lt; have x0 := (S1.out.blk 1 rfl).cell 0; have x1 := (S1.out.blk 1 rfl).cell 1; have x2 := (S1.out.blk 1 rfl).cell 2; have x3 := (S1.out.blk 1 rfl).cell 3; have xz := (S1.out.blk 1 rfl).lt; clear hb ra rb)))
        go_ret
        exact ⟨rfl, S3.out.ext⟩
      · have c1 : decide ((30:Int) < (n:Int) + 1) = false := by simpa using hn
        have hn29 : n ≤ 29 := by omega
        have QS := Lib.hid HSf
        have QL := Lib.hid HLf
        have QO := Lib.hid HHo
        have QI := Lib.hid HHi
        clear hn HSf HLf HHo HHi hno
        go_enter Tryz.func9, Tryz.ntmps9
        go_wp2_with (first | (go_at_call 10; have _t := S1; go_must (refine (HBig.out _ S1.out.ext).mono ?_; rintro e w2 ⟨rfl, hb⟩; have Z2 := Lib.hid hb; have S2 := Lib.hid (S1.out.call hb); have b0 := (S2.out.blk 0 rfl).cell 0; have b1 := (S2.out.blk 0 rfl).cell 1; have bz := (S2.out.blk 0 rfl).lt; have y0 := (S2.out.blk 1 rfl).cell 0; have y1 := (S2.out.blk 1 rfl).cell 1; have y2 := (S2.out.blk 1 rfl).cell 2; have y3 := (S2.out.blk 1 rfl).cell 3; have yz := (S2.out.blk 1 rfl).lt; clear hb)) | (go_at_call 26; go_must (refine (HBu.out _ S0.out.ext).mono ?_; rintro e w1 ⟨qO, cO, qI, cI, HO, HI, rfl, ra, rb, hb⟩; have RA := Lib.hid (ra.ext (Ext.alloc (Below.refl _ _) (.cells #[.slice qO n cO, .slice qI n cI] 42))); have RB := Lib.hid (rb.ext (Ext.alloc (Below.refl _ _) (.cells #[.slice qO n cO, .slice qI n cI] 42))); have S1 := Lib.hid ((S0.out.call hb).al #[.slice qO n cO, .slice qI n cI] 42 w1.heap.size rfl); have a0 := (S1.out.blk 0 rfl).cell 0; have a1 := (S1.out.blk 0 rfl).cell 1; have az := (S1.out.blk 0 rfl).lt; have x0 := (S1.out.blk 1 rfl).cell 0; have x1 := (S1.out.blk 1 rfl).cell 1; have x2 := (S1.out.blk 1 rfl).cell 2; have x3 := (S1.out.blk 1 rfl).cell 3; have xz := (S1.out.blk 1 rfl).lt; clear hb ra rb)))
        clear HBig HBu S1 S0
        go_loopw [5, 6, 7, 8, 9, 10, 11, 12, 13, 14, 15, 16] (fun v5 _ _ _ _ _ _ _ _ _ _ _ wr => ∃ k : Nat, k ≤ n ∧ v5 = .int .i64 k ∧ Ext w2 wr) (fun v5 _ _ _ _ _ _ _ _ _ _ _ _ => n - (intOf v5).toNat)
        case atStart => exact ⟨0, Nat.zero_le _, rfl, Below.refl _ _⟩
        case round =>
          obtain ⟨k, hk, rfl, hE⟩ := hrel
          have S3 := Lib.hid (S2.out.call hE)
          have c0 := (S3.out.blk 0 rfl).cell 0; have c1 := (S3.out.blk 0 rfl).cell 1; have cz := (S3.out.blk 0 rfl).lt; have u0 := (S3.out.blk 1 rfl).cell 0; have u1 := (S3.out.blk 1 rfl).cell 1; have u2 := (S3.out.blk 1 rfl).cell 2; have u3 := (S3.out.blk 1 rfl).cell 3; have uz := (S3.out.blk 1 rfl).lt
          by_cases hlt : k < n
          · have d1 : (0:Int) ≤ k := by omega
            have d2 : (k:Int) < n := by omega
            have HS := Lib.hid (QS.out k hlt)
            have WO := Lib.hid (fun j (hj : j < (nth A k).length) => QO.out k j hlt hj)
            have WI := Lib.hid (fun j (hj : j < (nth B k).length) => QI.out k j hlt hj)
            have HDk := Lib.hid (fun (u : Nat) (hu : u < n) W (h : Ext w2 W) => HDs.out k u W (Ext.trans S2.out.ext h) hlt hu)
            have HDu := Lib.hid (fun (u : Nat) (hu : u < n) W (h : Ext w2 W) => HDs.out u k W (Ext.trans S2.out.ext h) hu hlt)
            obtain ⟨⟨ap, an, ac⟩, hxa⟩ : ∃ x, nth HO k = x := ⟨_, rfl⟩
            obtain ⟨⟨bp, bn, bc⟩, hxb⟩ : ∃ x, nth HI k = x := ⟨_, rfl⟩
            have hcA : Hid (w2.cell? (adr qO k) = some (.slice ap an ac)) := by have := (RA.out.ext Z2.out).row.cH hlt; rw [hxa] at this; exact this
            have hcB : Hid (w2.cell? (adr qI k) = some (.slice bp bn bc)) := by have := (RB.out.ext Z2.out).row.cH hlt; rw [hxb] at this; exact this
            have eA : Hid (Rd w2 2 ap an (encE (nth A k))) := by have := (RA.out.ext Z2.out).each k hlt; rw [hxa] at this; exact this
            have eB : Hid (Rd w2 2 bp bn (encE (nth B k))) := by have := (RB.out.ext Z2.out).each k hlt; rw [hxb] at this; exact this
            have lA := Lib.hid eA.out.nE
            have lB := Lib.hid eB.out.nE
            have pA := (RA.out.ext Z2.out).row.ptr
            have pB := (RB.out.ext Z2.out).row.ptr
            have pa := eA.out.ptr
            have pb := eB.out.ptr
            have sa := eA.out.small
            have sb := eB.out.small
            have bA := Lib.hid (fun j => selfN_le (nth A k) j k)
            have bB := Lib.hid (fun j => selfN_le (nth B k) j k)
            have kA := Lib.hid (fun j hj => selfN_step (l := nth A k) (k := j) hj (k:Int))
            have kB := Lib.hid (fun j hj => selfN_step (l := nth B k) (k := j) hj (k:Int))
            have lenA := Lib.hid (QL.out k hlt).1
            have lenB := Lib.hid (QL.out k hlt).2
            rw [← lA.out] at lenA
            rw [← lB.out] at lenB
            generalize nth A k = a at *
            generalize nth B k = b at *
            have hcA0 := hE.cell hcA.out
            have hcB0 := hE.cell hcB.out
            clear hxa hxb
            have HE := Lib.hid hE; clear hE
            go_wp2
            go_loopw [6, 7, 8, 9, 10, 11] (fun v6 v7 _ _ _ _ wx => ∃ j : Nat, j ≤ an ∧ v6 = .int .i64 (selfN (a.take j) k : Nat) ∧ v7 = .int .i64 j ∧ Ext w2 wx) (fun _ v7 _ _ _ _ _ => an - (intOf v7).toNat)
            case atStart => exact ⟨0, Nat.zero_le _, rfl, rfl, HE.out⟩
            case round =>
              obtain ⟨j, hj, rfl, rfl, hF⟩ := hrel
              have S4 := Lib.hid (S2.out.call hF)
              have g0 := (S4.out.blk 0 rfl).cell 0; have g1 := (S4.out.blk 0 rfl).cell 1; have gz := (S4.out.blk 0 rfl).lt; have m0 := (S4.out.blk 1 rfl).cell 0; have m1 := (S4.out.blk 1 rfl).cell 1; have m2 := (S4.out.blk 1 rfl).cell 2; have m3 := (S4.out.blk 1 rfl).cell 3; have mz := (S4.out.blk 1 rfl).lt
              have g1 := hF.cell hcA.out
              by_cases hjt : j < an
              · obtain ⟨u, d, hx, hu, h0, h2, hd, hB⟩ := WO.out j (by rw [← lA.out]; exact hjt)
                have c1 := hF.cell (eA.out.cE hjt)
                have c2 := hF.cell (eA.out.cE2 hjt)
                have st := kA.out j (by rw [← lA.out]; exact hjt)
                rw [hx] at c1 c2 st
                simp only at c1 c2 st
                have HX := HDk.out u hu
                rw [hd, hB] at HX
                have HXk := Lib.hid HX
                have d3 : (0:Int) ≤ j := by omega
                have d4 : (j:Int) < an := by omega
                have bj := bA.out j
                have bl := lenA.out
                rw [← lA.out] at bj
                have HST := Lib.hid st
                have S5 := Lib.hid (S4.out.al #[.int .i64 u, .int .i64 d] 54 wr.heap.size rfl)
                have Z5 := Lib.hid (Ext.trans hF (Ext.alloc (Below.refl _ _) (.cells #[.int .i64 u, .int .i64 d] 54)))
                have xg : (d != d) = false := by simp
                clear st hx hd hB HX h0 h2
                generalize selfN (a.take j) k = sj at *
                by_cases huk : u = k
                · have e1 : ((u:Int) == (k:Int)) = true := by rw [beq_iff_eq]; omega
                  rw [if_pos (by rw [huk])] at HST
                  clear huk
                  have HF := Lib.hid hF; clear hF
                  go_wp2_with (go_at_call 39; go_must (refine (HXk.out _ Z5.out).mono ?_; rintro e w6 ⟨rfl, hb⟩; have Z6 := Lib.hid (Ext.trans Z5.out hb); have S6 := Lib.hid (S5.out.call hb); have f0 := (S6.out.blk 0 rfl).cell 0; have f1 := (S6.out.blk 0 rfl).cell 1; have fz := (S6.out.blk 0 rfl).lt; clear hb))
                  go_roundw
                  case rel => exact ⟨j + 1, by omega, by rw [HST.out]; go_num, by go_num, Z6.out⟩
                  case measure => simp [intOf]; omega
                · have e1 : ((u:Int) == (k:Int)) = false := by rw [beq_eq_false_iff_ne]; omega
                  rw [if_neg (by omega)] at HST
                  clear huk
                  have HF := Lib.hid hF; clear hF
                  go_wp2_with (go_at_call 39; go_must (refine (HXk.out _ Z5.out).mono ?_; rintro e w6 ⟨rfl, hb⟩; have Z6 := Lib.hid (Ext.trans Z5.out hb); have S6 := Lib.hid (S5.out.call hb); have f0 := (S6.out.blk 0 rfl).cell 0; have f1 := (S6.out.blk 0 rfl).cell 1; have fz := (S6.out.blk 0 rfl).lt; clear hb))
                  go_roundw
                  case rel => exact ⟨j + 1, by omega, by rw [HST.out]; go_num, by go_num, Z6.out⟩
                  case measure => simp [intOf]; omega
              · obtain rfl : j = an := by omega
                have tA : selfN (a.take j) k = 1 := by rw [List.take_of_length_le (by rw [← lA.out]; exact Nat.le_refl _)]; exact HS.out.1
                rw [tA]
                clear tA
                have hcB1 := hF.cell hcB.out
                have HF := Lib.hid hF; clear hF
                go_wp2
                go_loopw [6, 12, 13, 14, 15, 16] (fun v6 v7 _ _ _ _ wx => ∃ j : Nat, j ≤ bn ∧ v6 = .int .i64 (1 + selfN (b.take j) k : Nat) ∧ v7 = .int .i64 j ∧ Ext w2 wx) (fun _ v7 _ _ _ _ _ => bn - (intOf v7).toNat)
                case atStart => exact ⟨0, Nat.zero_le _, rfl, rfl, HF.out⟩
                case round =>
                  obtain ⟨j, hj, rfl, rfl, hF⟩ := hrel
                  have S4 := Lib.hid (S2.out.call hF)
                  have h0 := (S4.out.blk 0 rfl).cell 0; have h1 := (S4.out.blk 0 rfl).cell 1; have hz := (S4.out.blk 0 rfl).lt; have q0 := (S4.out.blk 1 rfl).cell 0; have q1 := (S4.out.blk 1 rfl).cell 1; have q2 := (S4.out.blk 1 rfl).cell 2; have q3 := (S4.out.blk 1 rfl).cell 3; have qz := (S4.out.blk 1 rfl).lt
                  have g1 := hF.cell hcB.out
                  by_cases hjt : j < bn
                  · obtain ⟨u, d, hx, hu, h0, h2, hd, hB⟩ := WI.out j (by rw [← lB.out]; exact hjt)
                    have c1 := hF.cell (eB.out.cE hjt)
                    have c2 := hF.cell (eB.out.cE2 hjt)
                    have st := kB.out j (by rw [← lB.out]; exact hjt)
                    rw [hx] at c1 c2 st
                    simp only at c1 c2 st
                    have HX := HDu.out u hu
                    rw [hd, hB] at HX
                    have HXk := Lib.hid HX
                    have d3 : (0:Int) ≤ j := by omega
                    have d4 : (j:Int) < bn := by omega
                    have bj := bB.out j
                    have bl := lenB.out
                    rw [← lB.out] at bj
                    have HST := Lib.hid st
                    have S5 := Lib.hid (S4.out.al #[.int .i64 u, .int .i64 d] 54 wr.heap.size rfl)
                    have Z5 := Lib.hid (Ext.trans hF (Ext.alloc (Below.refl _ _) (.cells #[.int .i64 u, .int .i64 d] 54)))
                    have xg : (d != d) = false := by simp
                    clear st hx hd hB HX h0 h2
                    generalize selfN (b.take j) k = sj at *
                    by_cases huk : u = k
                    · have e1 : ((u:Int) == (k:Int)) = true := by rw [beq_iff_eq]; omega
                      rw [if_pos (by rw [huk])] at HST
                      clear huk
                      have HF := Lib.hid hF; clear hF
                      go_wp2_with (go_at_call 39; go_must (refine (HXk.out _ Z5.out).mono ?_; rintro e w6 ⟨rfl, hb⟩; have Z6 := Lib.hid (Ext.trans Z5.out hb); have S6 := Lib.hid (S5.out.call hb); have f0 := (S6.out.blk 0 rfl).cell 0; have f1 := (S6.out.blk 0 rfl).cell 1; have fz := (S6.out.blk 0 rfl).lt; clear hb))
                      go_roundw
                      case rel => exact ⟨j + 1, by omega, by rw [HST.out]; go_num, by go_num, Z6.out⟩
                      case measure => simp [intOf]; omega
                    · have e1 : ((u:Int) == (k:Int)) = false := by rw [beq_eq_false_iff_ne]; omega
                      rw [if_neg (by omega)] at HST
                      clear huk
                      have HF := Lib.hid hF; clear hF
                      go_wp2_with (go_at_call 39; go_must (refine (HXk.out _ Z5.out).mono ?_; rintro e w6 ⟨rfl, hb⟩; have Z6 := Lib.hid (Ext.trans Z5.out hb); have S6 := Lib.hid (S5.out.call hb); have f0 := (S6.out.blk 0 rfl).cell 0; have f1 := (S6.out.blk 0 rfl).cell 1; have fz := (S6.out.blk 0 rfl).lt; clear hb))
                      go_roundw
                      case rel => exact ⟨j + 1, by omega, by rw [HST.out]; go_num, by go_num, Z6.out⟩
                      case measure => simp [intOf]; omega
                  · obtain rfl : j = bn := by omega
                    have tB : selfN (b.take j) k = 1 := by rw [List.take_of_length_le (by rw [← lB.out]; exact Nat.le_refl _)]; exact HS.out.2
                    rw [tB]
                    clear tB
                    have HF2 := Lib.hid hF; clear hF
                    go_wp2
                    go_roundw
                    case rel => exact ⟨k + 1, by omega, by go_num, HF2.out⟩
                    case measure => simp [intOf]; omega
          · have HE := Lib.hid hE; clear hE
            go_wp2_with (go_at_call 28; go_must (refine (Labels12 _).mono ?_; rintro e w5 ⟨rfl, hb⟩; have S5 := Lib.hid (S2.out.call (Ext.trans HE.out hb)); clear hb))
            go_ret
            exact ⟨rfl, S5.out.ext⟩
end Go.Proofs.YthlmcfbadhidbaaGreat
/- The law LabelTurned: rows that are turned have labels that tell the same, turned. -/
namespace Go.Proofs.YthlmcfbadhidbaaGreat
open Go Go.RowKit
set_option maxRecDepth 100000 in
set_option maxHeartbeats 8000000 in
theorem lawTurned12 (po : Option Addr) (no co : Nat) (O : List Int) (pt : Option Addr) (nt ct : Nat) (T : List Int) (pr : Option Addr) (nr cr : Nat) (R : List Int) (pv : Option Addr) (nv cv : Nat) (V : List Int) (f t : Int) (w : World) (hO : Rd w 1 po no (encI O)) (hT : Rd w 1 pt nt (encI T)) (hR : Rd w 1 pr nr (encI R)) (hV : Rd w 1 pv nv (encI V)) (hct : nt ≤ ct) (hcv : nv ≤ cv) : Calls Tryz.prog 7 #[.agg #[.slice po no co, .slice pt nt ct, .slice pr nr cr, .slice pv nv cv], .int .i64 f, .int .i64 t] w fun e w' => e = .returned (.bool true) ∧ Ext w w' := by
  have HBig := Lib.hid (fun W1 (h : Ext w W1) => Big04 po no co O pt nt ct T pr nr cr R pv nv cv V W1 (hO.ext h) (hT.ext h) (hR.ext h) (hV.ext h))
  have S0 := Lib.hid ((Sep.start w).al #[.slice po no co, .slice pt nt ct, .slice pr nr cr, .slice pv nv cv] 24 w.heap.size rfl)
  have lO := hO.nI
  have pz := hO.small
  cases hbig : bigR O T R V with
  | true =>
    rw [hbig] at HBig
    clear hbig hO hT hR hV hct hcv lO
    go_enter Tryz.func7, Tryz.ntmps7
    go_wp2_with (go_at_call 10; go_must (refine (HBig.out _ S0.out.ext).mono ?_; rintro e w1 ⟨rfl, hb⟩; have S1 := Lib.hid (S0.out.call hb); have xz := (S1.out.blk 0 rfl).lt; have x0 := (S1.out.blk 0 rfl).cell 0; have x1 := (S1.out.blk 0 rfl).cell 1; have x2 := (S1.out.blk 0 rfl).cell 2; have x3 := (S1.out.blk 0 rfl).cell 3; clear hb))
    go_ret
    exact ⟨rfl, S1.out.ext⟩
  | false =>
    rw [hbig] at HBig
    clear hbig
    by_cases hn : (30:Int) < no
    · have c1 : decide ((30:Int) < no) = true := by simpa using hn
      clear hn hO hT hR hV hct hcv lO
      go_enter Tryz.func7, Tryz.ntmps7
      go_wp2_with (go_at_call 10; go_must (refine (HBig.out _ S0.out.ext).mono ?_; rintro e w1 ⟨rfl, hb⟩; have S1 := Lib.hid (S0.out.call hb); have xz := (S1.out.blk 0 rfl).lt; have x0 := (S1.out.blk 0 rfl).cell 0; have x1 := (S1.out.blk 0 rfl).cell 1; have x2 := (S1.out.blk 0 rfl).cell 2; have x3 := (S1.out.blk 0 rfl).cell 3; clear hb))
      go_ret
      exact ⟨rfl, S1.out.ext⟩
    · have c1 : decide ((30:Int) < no) = false := by simpa using hn
      cases hck : checkR O T R V with
      | false =>
        have HBu := Lib.hid (fun W1 (h : Ext w W1) => BuildG_no po no co O pt nt ct T pr nr cr R pv nv cv V W1 (hO.ext h) (hT.ext h) (hR.ext h) (hV.ext h) hct hcv hck)
        have HBt := Lib.hid (fun W1 (h : Ext w W1) => BuildG_no pr nr cr R pv nv cv V po no co O pt nt ct T W1 (hR.ext h) (hV.ext h) (hO.ext h) (hT.ext h) hcv hct (by rw [checkR_turn]; exact hck))
        clear hO hT hR hV hct hcv lO hn hck
        go_enter Tryz.func7, Tryz.ntmps7
        go_wp2_with (first | (go_at_call 28; have _t := S3; go_must (refine (Labels12 _).mono ?_; rintro e w4 ⟨rfl, hb⟩; have S4 := Lib.hid (S3.out.call hb); clear hb)) | (go_at_call 26; have _t := S2; go_must (refine (HBt.out _ S2.out.ext).mono ?_; rintro e w3 ⟨rfl, hb⟩; have S3 := Lib.hid ((S2.out.call hb).al #[.slice none 0 0, .slice none 0 0] 42 w3.heap.size rfl); clear hb)) | (go_at_call 26; have _t := S1; go_must (refine (HBu.out _ S1.out.ext).mono ?_; rintro e w2 ⟨rfl, hb⟩; have S2 := Lib.hid ((S1.out.call hb).al #[.slice none 0 0, .slice none 0 0] 42 w2.heap.size rfl); have yz := (S2.out.blk 1 rfl).lt; have y0 := (S2.out.blk 1 rfl).cell 0; have y1 := (S2.out.blk 1 rfl).cell 1; have y2 := (S2.out.blk 1 rfl).cell 2; have y3 := (S2.out.blk 1 rfl).cell 3; clear hb)) | (go_at_call 10; go_must (refine (HBig.out _ S0.out.ext).mono ?_; rintro e w1 ⟨rfl, hb⟩; have S1 := Lib.hid (S0.out.call hb); have xz := (S1.out.blk 0 rfl).lt; have x0 := (S1.out.blk 0 rfl).cell 0; have x1 := (S1.out.blk 0 rfl).cell 1; have x2 := (S1.out.blk 0 rfl).cell 2; have x3 := (S1.out.blk 0 rfl).cell 3; clear hb)))
        go_ret
        exact ⟨rfl, S4.out.ext⟩
      | true =>
        have r := offB_parts (halfB_off (checkR_half hck).2.2.1)
        obtain ⟨n, hno⟩ : ∃ n, O.length = n + 1 := ⟨O.length - 1, by omega⟩
        have hck2 := checkR_turn1 hck
        have hnr : R.length = n + 1 := by rw [← (checkR_half hck).1]; exact hno
        have HBu := Lib.hid (fun W1 (h : Ext w W1) => BuildRd po no co O pt nt ct T pr nr cr R pv nv cv V n W1 (hO.ext h) (hT.ext h) (hR.ext h) (hV.ext h) hct hcv hck hno)
        have HBt := Lib.hid (fun W1 (h : Ext w W1) => BuildRd pr nr cr R pv nv cv V po no co O pt nt ct T n W1 (hR.ext h) (hV.ext h) (hO.ext h) (hT.ext h) hcv hct hck2 hnr)
        rw [byL_turn] at HBt
        have hn1 : 1 ≤ n ∧ n ≤ 200 ∧ no = n + 1 := by omega
        obtain ⟨g1, g2, rfl⟩ := hn1
        have c1 : decide ((30:Int) < (n:Int) + 1) = false := by simp; omega
        have HSZ := Lib.hid (lsize_lab (na := rowL R V) (nb := rowL O T) (L := byL O R n) g2)
        have lA := labT_len (rowL R V) n (byL O R n) n
        have lB := labT_len (rowL O T) n (byL O R n) n
        clear hO hT hR hV hct hcv lO r hck hck2 hnr hno hn
        generalize labT (rowL R V) n (byL O R n) n = A at *
        generalize labT (rowL O T) n (byL O R n) n = B at *
        have HQT := Lib.hid (query_turn (A := A) (B := B) (by omega) f t)
        have HLT := Lib.hid (lsize_turn A B)
        clear lA lB
        go_enter Tryz.func7, Tryz.ntmps7
        go_wp2_with (first
          | (go_at_call 32; have _t := S4; go_must (refine (LQueryG uO n dO KO B uI n dI KI A t f _ (RC.out.ext Z4.out) (RD.out.ext Z4.out)).mono ?_; rintro e w5 ⟨rfl, hb⟩; rw [HQT.out.1, HQT.out.2.1, HQT.out.2.2]; have Z5 := Lib.hid (Ext.trans Z4.out hb); have S5 := Lib.hid (S4.out.call hb); clear hb))
          | (go_at_call 32; have _t := S3; go_must (refine (LQueryG qO n cO HO A qI n cI HI B f t _ (RA.out.ext EX.out) (RB.out.ext EX.out)).mono ?_; rintro e w4 ⟨rfl, hb⟩; have Z4 := Lib.hid hb; have S4 := Lib.hid (S3.out.call hb); have uz := (S4.out.blk 0 rfl).lt; have u0 := (S4.out.blk 0 rfl).cell 0; have u1 := (S4.out.blk 0 rfl).cell 1; clear hb))
          | (go_at_call 26; have _t := S2; go_must (refine (HBt.out _ S2.out.ext).mono ?_; rintro e w3 ⟨uO, dO, uI, dI, KO, KI, rfl, rc, rd, hb⟩; have EX := Lib.hid (Ext.trans hb (Ext.alloc (Below.refl _ _) (.cells #[.slice uO n dO, .slice uI n dI] 42))); have RC := Lib.hid (rc.ext (Ext.alloc (Below.refl _ _) (.cells #[.slice uO n dO, .slice uI n dI] 42))); have RD := Lib.hid (rd.ext (Ext.alloc (Below.refl _ _) (.cells #[.slice uO n dO, .slice uI n dI] 42))); have S3 := Lib.hid ((S2.out.call hb).al #[.slice uO n dO, .slice uI n dI] 42 w3.heap.size rfl); have pz := (S3.out.blk 1 rfl).lt; have p0 := (S3.out.blk 1 rfl).cell 0; have p1 := (S3.out.blk 1 rfl).cell 1; have qz := (S3.out.blk 0 rfl).lt; have q0 := (S3.out.blk 0 rfl).cell 0; have q1 := (S3.out.blk 0 rfl).cell 1; clear hb rc rd)) | (go_at_call 26; have _t := S1; go_must (refine (HBu.out _ S1.out.ext).mono ?_; rintro e w2 ⟨qO, cO, qI, cI, HO, HI, rfl, ra, rb, hb⟩; have RA := Lib.hid (ra.ext (Ext.alloc (Below.refl _ _) (.cells #[.slice qO n cO, .slice qI n cI] 42))); have RB := Lib.hid (rb.ext (Ext.alloc (Below.refl _ _) (.cells #[.slice qO n cO, .slice qI n cI] 42))); have S2 := Lib.hid ((S1.out.call hb).al #[.slice qO n cO, .slice qI n cI] 42 w2.heap.size rfl); have yz := (S2.out.blk 1 rfl).lt; have y0 := (S2.out.blk 1 rfl).cell 0; have y1 := (S2.out.blk 1 rfl).cell 1; have y2 := (S2.out.blk 1 rfl).cell 2; have y3 := (S2.out.blk 1 rfl).cell 3; clear hb ra rb)) | (go_at_call 10; go_must (refine (HBig.out _ S0.out.ext).mono ?_; rintro e w1 ⟨rfl, hb⟩; have S1 := Lib.hid (S0.out.call hb); have xz := (S1.out.blk 0 rfl).lt; have x0 := (S1.out.blk 0 rfl).cell 0; have x1 := (S1.out.blk 0 rfl).cell 1; have x2 := (S1.out.blk 0 rfl).cell 2; have x3 := (S1.out.blk 0 rfl).cell 3; clear hb)))
        have f1 : (queryN A B f t == queryN A B f t) = true := by simp
        have f2 : (queryO A B f t == queryO A B f t) = true := by simp
        have f3 : (queryC A B f t == queryC A B f t) = true := by simp
        have f4 : (((lsize A B : Nat) : Int) == ((lsize A B : Nat) : Int)) = true := by simp
        have H1 := Lib.hid (fun x : ExtOf w5 => Labels12 x.val)
        have H2 := Lib.hid (fun x : ExtOf w5 => LSizeG qO n cO HO A qI n cI HI B x.val (RA.out.ext (Ext.trans EX.out (Ext.trans Z5.out x.ext))) (RB.out.ext (Ext.trans EX.out (Ext.trans Z5.out x.ext))) (by have := HSZ.out; omega) (by omega) (by omega))
        have H3' := fun x : ExtOf w5 => LSizeG uO n dO KO B uI n dI KI A x.val (RC.out.ext (Ext.trans Z5.out x.ext)) (RD.out.ext (Ext.trans Z5.out x.ext)) (by have := HSZ.out; have := HLT.out; omega) (by omega) (by omega)
        rw [HLT.out] at H3'
        have H3 := Lib.hid H3'
        clear H3' HSZ HLT HQT
        generalize queryN A B f t = QN at *
        generalize queryO A B f t = QO at *
        generalize queryC A B f t = QC at *
        generalize lsize A B = QS at *
        have i0 : w5.cell? ⟨w2.heap.size, 0, none⟩ = some (.slice qO n cO) := (S5.out.blk 1 rfl).cell 0
        have i1 : w5.cell? ⟨w2.heap.size, 1, none⟩ = some (.slice qI n cI) := (S5.out.blk 1 rfl).cell 1
        have j0 : w5.cell? ⟨w3.heap.size, 0, none⟩ = some (.slice uO n dO) := (S5.out.blk 0 rfl).cell 0
        have j1 : w5.cell? ⟨w3.heap.size, 1, none⟩ = some (.slice uI n dI) := (S5.out.blk 0 rfl).cell 1
        have o0 := fun x : ExtOf w5 => x.ext.cell i0
        have o1 := fun x : ExtOf w5 => x.ext.cell i1
        have o2 := fun x : ExtOf w5 => x.ext.cell j0
        have o3 := fun x : ExtOf w5 => x.ext.cell j1
        refine wp_region_ext (by kernel_rfl) (by kernel_rfl) ?_
        repeat (go_big_quiet_step (((first | (go_at_call 28; exact Calls.ext_of (H1.out _)) | (go_at_call 36; with_reducible exact Calls.ext_of (H2.out _)) | (go_at_call 36; exact Calls.ext_of (H3.out _))))))
        refine wpQuiet_nil ?_
        rintro w9 ⟨⟨_, hb9⟩, rfl⟩
        go_wp2
        go_ret
        exact ⟨rfl, Ext.trans S5.out.ext hb9⟩
end Go.Proofs.YthlmcfbadhidbaaGreat
