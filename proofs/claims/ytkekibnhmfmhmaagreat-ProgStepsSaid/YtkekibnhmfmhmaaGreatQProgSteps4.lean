/- Texts of this claim, one behind the other: Pq6, Pq6b, PlainNx, Row4r, Half4r, Chk4r, Out4r, Rf7, Ex4, Edg4, Edg4r, LSteps18, Open, Post, Open5, OpenQ, Open4. -/
import Derived.IntWalk
import Derived.ProofKit
import Derived.Deep.Slices
import Derived.Deep.Fields
import Derived.ChangeSame
import Derived.Lib.SmallJoins
import Derived.Below
import Derived.Carry
import Derived.OpenShut
import Derived.Test.YtkekibnhmfmhmaaGreatProg
import Derived.Test.YtkekibnhmfmhmaaGreatQProgSteps3
/- Chapter 18: how a query goes on from a place (the program's Next). -/
namespace Go.Proofs.YtkekibnhmfmhmaaGreat
open Go Go.RowKit
def nextC (ck : Bool) (O R : List Int) (x : Sq) : Int := nxC ck (outB ck (if x.r = 1 then R else O) x.v) x
def nextL (k rad : Int) (ck : Bool) (O T R V : List Int) (x : Sq) : List Sq := nxL k rad (nextC ck O R x) x (if x.r = 1 then outL ck R V x.v else outL ck O T x.v)
theorem outL_I {ck : Bool} {A B : List Int} {v : Int} (hB : B.length ≤ 2000) : (outL ck A B v).length ≤ 2000 := by
  unfold outL
  split
  · unfold rowL; rw [List.length_take, List.length_drop]; omega
  · simp
theorem encQ_snoc (l : List Sq) (x : Sq) : encQ (l ++ [x]) = encQ l ++ [.int .i64 x.s, .int .i64 x.r, .int .i64 x.v, .int .i64 x.d] := by rw [encQ_append]; rfl
set_option maxRecDepth 100000 in
set_option maxHeartbeats 8000000 in
theorem NextIn (k f t : Int) (pw : Option Addr) (nw cw : Nat) (rad most : Int) (po : Option Addr) (no co : Nat) (O : List Int) (pt : Option Addr) (nt ct : Nat) (T : List Int) (pr : Option Addr) (nr cr : Nat) (R : List Int) (pv : Option Addr) (nv cv : Nat) (V : List Int) (w : World) (s v d : Int) (hO : Rd w 1 po no (encI O)) (hT : Rd w 1 pt nt (encI T)) (hR : Rd w 1 pr nr (encI R)) (hV : Rd w 1 pv nv (encI V)) (hct : nt ≤ ct) (hcv : nv ≤ cv) (hb : checkR O T R V = true → (outL (checkR O T R V) R V v).length ≤ 100000) :
    Calls Tryz.prog 19 #[.agg #[.int .i64 k, .int .i64 f, .int .i64 t, .slice pw nw cw, .int .i64 rad, .int .i64 most], .agg #[.slice po no co, .slice pt nt ct, .slice pr nr cr, .slice pv nv cv], .agg #[.int .i64 s, .int .i64 1, .int .i64 v, .int .i64 d]] w fun e w' => ∃ q c, e = .returned (.tuple #[.slice q (nextL k rad (checkR O T R V) O T R V ⟨s, 1, v, d⟩).length c, .int .i64 (nextC (checkR O T R V) O R ⟨s, 1, v, d⟩)]) ∧ Sep w w' [.own 81 4 q (nextL k rad (checkR O T R V) O T R V ⟨s, 1, v, d⟩).length c (encQ (nextL k rad (checkR O T R V) O T R V ⟨s, 1, v, d⟩))] := by
  obtain ⟨i0, hi0, hz0, hz1, hz2⟩ := info_parts infMail
  have S0 := Lib.hid ((((Sep.start w).al #[.int .i64 k, .int .i64 f, .int .i64 t, .slice pw nw cw, .int .i64 rad, .int .i64 most] 24 w.heap.size rfl).al #[.slice po no co, .slice pt nt ct, .slice pr nr cr, .slice pv nv cv] 41 (w.heap.size + 1) (by simp)).al #[.int .i64 s, .int .i64 1, .int .i64 v, .int .i64 d] 45 (w.heap.size + 1 + 1) (by simp))
  have HC := Lib.hid (fun W1 (h : Ext w W1) => CheckR po no co O pt nt ct T pr nr cr R pv nv cv V W1 (hO.ext h) (hT.ext h) (hR.ext h) (hV.ext h) hct hcv)
  have HG := Lib.hid (fun W1 (h : Ext w W1) => InG po no co O pt nt ct T pr nr cr R pv nv cv V W1 v (hO.ext h) (hT.ext h) (hR.ext h) (hV.ext h) hct hcv)
  unfold nextL nextC
  simp only [if_true]
  clear hO hT hR hV
  cases hck : checkR O T R V with
  | false =>
    rw [hck] at HC HG
    rw [nxC_40, nxL_no (Or.inl (by decide))]
    clear hck hb
    generalize outL false R V v = L at *
    generalize outB false R v = ob at *
    go_enter Tryz.func19, Tryz.ntmps19
    go_wp2_with (first | (go_at_call 56; go_must (refine (HC.out _ S1.out.ext).mono ?_; rintro e w2 ⟨rfl, hb⟩; have S2 := Lib.hid (S1.out.call hb); clear y0 y1 y2 y3 yz b0 b1 b2 b3 bz hb; have y0 := (S2.out.blk 1 rfl).cell 0; have y1 := (S2.out.blk 1 rfl).cell 1; have y2 := (S2.out.blk 1 rfl).cell 2; have y3 := (S2.out.blk 1 rfl).cell 3; have yz := (S2.out.blk 1 rfl).lt; have a0 := (S2.out.blk 3 rfl).cell 0; have a4 := (S2.out.blk 3 rfl).cell 4; have az := (S2.out.blk 3 rfl).lt)) | (go_at_call 55; go_must (refine (HG.out _ S0.out.ext).mono ?_; rintro e w1 ⟨q, c, rfl, Z⟩; have S1 := Lib.hid (S0.out.comp Z); have y0 := (S1.out.blk 1 rfl).cell 0; have y1 := (S1.out.blk 1 rfl).cell 1; have y2 := (S1.out.blk 1 rfl).cell 2; have y3 := (S1.out.blk 1 rfl).cell 3; have yz := (S1.out.blk 1 rfl).lt; have b0 := (S1.out.blk 2 rfl).cell 0; have b1 := (S1.out.blk 2 rfl).cell 1; have b2 := (S1.out.blk 2 rfl).cell 2; have b3 := (S1.out.blk 2 rfl).cell 3; have bz := (S1.out.blk 2 rfl).lt; clear Z)))
    go_ret2
    exact ⟨none, 0, rfl, (S2.out.nilrow _ _).pick [0] (by decide) rfl⟩
  | true =>
    rw [hck] at HC HG
    have hbL := hb hck
    rw [hck] at hbL
    clear hck hb
    generalize outL true R V v = L at *
    cases hob : outB true R v with
    | false =>
      rw [hob] at HG
      rw [nxC_1 (fun h => by cases h.1), nxL_no (Or.inl (by decide))]
      clear hob
      go_enter Tryz.func19, Tryz.ntmps19
      go_wp2_with (first | (go_at_call 56; go_must (refine (HC.out _ S1.out.ext).mono ?_; rintro e w2 ⟨rfl, hb⟩; have S2 := Lib.hid (S1.out.call hb); clear y0 y1 y2 y3 yz b0 b1 b2 b3 bz hb; have y0 := (S2.out.blk 1 rfl).cell 0; have y1 := (S2.out.blk 1 rfl).cell 1; have y2 := (S2.out.blk 1 rfl).cell 2; have y3 := (S2.out.blk 1 rfl).cell 3; have yz := (S2.out.blk 1 rfl).lt; have a0 := (S2.out.blk 3 rfl).cell 0; have a4 := (S2.out.blk 3 rfl).cell 4; have az := (S2.out.blk 3 rfl).lt)) | (go_at_call 55; go_must (refine (HG.out _ S0.out.ext).mono ?_; rintro e w1 ⟨q, c, rfl, Z⟩; have S1 := Lib.hid (S0.out.comp Z); have y0 := (S1.out.blk 1 rfl).cell 0; have y1 := (S1.out.blk 1 rfl).cell 1; have y2 := (S1.out.blk 1 rfl).cell 2; have y3 := (S1.out.blk 1 rfl).cell 3; have yz := (S1.out.blk 1 rfl).lt; have b0 := (S1.out.blk 2 rfl).cell 0; have b1 := (S1.out.blk 2 rfl).cell 1; have b2 := (S1.out.blk 2 rfl).cell 2; have b3 := (S1.out.blk 2 rfl).cell 3; have bz := (S1.out.blk 2 rfl).lt; clear Z)))
      go_ret2
      exact ⟨none, 0, rfl, (S2.out.nilrow _ _).pick [0] (by decide) rfl⟩
    | true =>
      rw [hob] at HG
      clear hob
      by_cases hd : 0 ≤ d ∧ d ≤ 200
      · rw [nxC_0 ⟨rfl, Or.inr rfl, hd⟩]
        obtain ⟨hd0, hd1⟩ := hd
        by_cases h3 : k = 3 ∧ rad ≤ d
        · rw [nxL_no (Or.inr h3)]
          obtain ⟨rfl, h3⟩ := h3
          go_enter Tryz.func19, Tryz.ntmps19
          go_wp2_with (first | (go_at_call 56; go_must (refine (HC.out _ S1.out.ext).mono ?_; rintro e w2 ⟨rfl, hb⟩; have S2 := Lib.hid (S1.out.call hb); clear y0 y1 y2 y3 yz b0 b1 b2 b3 bz hb; have y0 := (S2.out.blk 1 rfl).cell 0; have y1 := (S2.out.blk 1 rfl).cell 1; have y2 := (S2.out.blk 1 rfl).cell 2; have y3 := (S2.out.blk 1 rfl).cell 3; have yz := (S2.out.blk 1 rfl).lt; have a0 := (S2.out.blk 3 rfl).cell 0; have a4 := (S2.out.blk 3 rfl).cell 4; have az := (S2.out.blk 3 rfl).lt)) | (go_at_call 55; go_must (refine (HG.out _ S0.out.ext).mono ?_; rintro e w1 ⟨q, c, rfl, Z⟩; have S1 := Lib.hid (S0.out.comp Z); have y0 := (S1.out.blk 1 rfl).cell 0; have y1 := (S1.out.blk 1 rfl).cell 1; have y2 := (S1.out.blk 1 rfl).cell 2; have y3 := (S1.out.blk 1 rfl).cell 3; have yz := (S1.out.blk 1 rfl).lt; have b0 := (S1.out.blk 2 rfl).cell 0; have b1 := (S1.out.blk 2 rfl).cell 1; have b2 := (S1.out.blk 2 rfl).cell 2; have b3 := (S1.out.blk 2 rfl).cell 3; have bz := (S1.out.blk 2 rfl).lt; clear Z)))
          go_ret2
          exact ⟨none, 0, rfl, (S2.out.nilrow _ _).pick [0] (by decide) rfl⟩
        · rw [nxL_yes rfl h3, List.length_map]
          have HL := Lib.hid hbL
          clear hbL
          have H3 : Hid (k = 3 → d < rad) := fun e => Int.not_le.1 fun h => h3 ⟨e, h⟩
          have hk3 : (k == 3) = true ∧ decide (rad ≤ d) = false ∨ (k == 3) = false := by
            by_cases e : k = 3
            · exact .inl ⟨by simpa using e, by simpa using H3.out e⟩
            · exact .inr (by simpa using e)
          clear H3 h3
          rcases hk3 with ⟨k3, k4⟩ | k3
          · obtain rfl : k = 3 := by simpa using k3
            clear k3
            go_enter Tryz.func19, Tryz.ntmps19
            go_wp2_with (first | (go_at_call 56; go_must (refine (HC.out _ S1.out.ext).mono ?_; rintro e w2 ⟨rfl, hb⟩; have S2 := Lib.hid (S1.out.call hb); clear y0 y1 y2 y3 yz b0 b1 b2 b3 bz hb; have y0 := (S2.out.blk 1 rfl).cell 0; have y1 := (S2.out.blk 1 rfl).cell 1; have y2 := (S2.out.blk 1 rfl).cell 2; have y3 := (S2.out.blk 1 rfl).cell 3; have yz := (S2.out.blk 1 rfl).lt; have a0 := (S2.out.blk 3 rfl).cell 0; have a4 := (S2.out.blk 3 rfl).cell 4; have az := (S2.out.blk 3 rfl).lt)) | (go_at_call 55; go_must (refine (HG.out _ S0.out.ext).mono ?_; rintro e w1 ⟨q, c, rfl, Z⟩; have S1 := Lib.hid (S0.out.comp Z); have y0 := (S1.out.blk 1 rfl).cell 0; have y1 := (S1.out.blk 1 rfl).cell 1; have y2 := (S1.out.blk 1 rfl).cell 2; have y3 := (S1.out.blk 1 rfl).cell 3; have yz := (S1.out.blk 1 rfl).lt; have b0 := (S1.out.blk 2 rfl).cell 0; have b1 := (S1.out.blk 2 rfl).cell 1; have b2 := (S1.out.blk 2 rfl).cell 2; have b3 := (S1.out.blk 2 rfl).cell 3; have bz := (S1.out.blk 2 rfl).lt; clear Z)))
            have nL := Lib.hid ((S2.out.rdx 0 rfl).nI)
            have pL := (S2.out.rdx 0 rfl).ptr
            have sL := (S2.out.rdx 0 rfl).small
            have S3 := Lib.hid ((S2.out.nilrow 81 4).pick [0, 1, 2] (by decide) rfl : Sep w w2 [.own 81 4 none 0 0 [], .own 3 1 q L.length c (encI L), .blk (w.heap.size + 1 + 1) 45 #[.int .i64 s, .int .i64 1, .int .i64 v, .int .i64 d]])
            clear y0 y1 y2 y3 yz a0 a4 az S2 S1 S0 HC HG
            go_loopw [11, 13, 69] (fun m _ i wr => ∃ (j : Nat) (q' : Option Addr) (c' : Nat), j ≤ L.length ∧ i = .int .i64 j ∧ m = .slice q' j c' ∧ Sep w wr [.own 81 4 q' j c' (encQ ((L.take j).map fun v => (⟨s, 1, v, d + 1⟩ : Sq))), .own 3 1 q L.length c (encI L), .blk (w.heap.size + 1 + 1) 45 #[.int .i64 s, .int .i64 1, .int .i64 v, .int .i64 d]]) (fun _ _ i _ => L.length - (intOf i).toNat)
            case atStart => exact ⟨0, none, 0, Nat.zero_le _, rfl, rfl, S3.out⟩
            case round =>
              clear S3
              obtain ⟨j, q', c', hj, rfl, rfl, S⟩ := hrel
              by_cases hlt : j < L.length
              · have g1 := (S.rdx 1 rfl).cI hlt
                have HT := Lib.hid (take_succ_nth L j hlt)
                have d1 : (0:Int) ≤ j := by omega
                have d2 : (j:Int) < L.length := by omega
                have hl := HL.out
                have y0 := ((Lib.hid S).out.blk 2 rfl).cell 0; have y1 := ((Lib.hid S).out.blk 2 rfl).cell 1; have y2 := ((Lib.hid S).out.blk 2 rfl).cell 2; have y3 := ((Lib.hid S).out.blk 2 rfl).cell 3; have yz := ((Lib.hid S).out.blk 2 rfl).lt
                have SH := Lib.hid S; clear S
                generalize nth L j = u at *
                go_wp2_with (at_builtin; go_must (refine wpList_append_sep rfl _ _ _ rfl 81 i0 _ 4 32 Tryz.underlying27 hi0 hz0 hz1 hz2 rfl (by omega) (SH.out.junk _) 0 q' j c' _ rfl rfl _ 1 1 _ rfl (Rd.oneQ _ _ ⟨s, 1, u, d + 1⟩) (one_encQ _) (by omega) (by omega) ?_; intro q7 c7 w7 S' hsz; have S7 := Lib.hid S'; clear S' hsz))
                go_roundw
                case rel => exact ⟨j + 1, q7, c7, by omega, by go_num, rfl, by rw [HT.out, List.map_append, encQ_append]; exact S7.out⟩
                case measure => simp [intOf]; omega
              · obtain rfl : j = L.length := by omega
                rw [List.take_length] at S
                have SH := Lib.hid S; clear S
                go_wp2
                go_ret2
                exact ⟨q', c', rfl, SH.out.pick [0] (by decide) rfl⟩
          · go_enter Tryz.func19, Tryz.ntmps19
            go_wp2_with (first | (go_at_call 56; go_must (refine (HC.out _ S1.out.ext).mono ?_; rintro e w2 ⟨rfl, hb⟩; have S2 := Lib.hid (S1.out.call hb); clear y0 y1 y2 y3 yz b0 b1 b2 b3 bz hb; have y0 := (S2.out.blk 1 rfl).cell 0; have y1 := (S2.out.blk 1 rfl).cell 1; have y2 := (S2.out.blk 1 rfl).cell 2; have y3 := (S2.out.blk 1 rfl).cell 3; have yz := (S2.out.blk 1 rfl).lt; have a0 := (S2.out.blk 3 rfl).cell 0; have a4 := (S2.out.blk 3 rfl).cell 4; have az := (S2.out.blk 3 rfl).lt)) | (go_at_call 55; go_must (refine (HG.out _ S0.out.ext).mono ?_; rintro e w1 ⟨q, c, rfl, Z⟩; have S1 := Lib.hid (S0.out.comp Z); have y0 := (S1.out.blk 1 rfl).cell 0; have y1 := (S1.out.blk 1 rfl).cell 1; have y2 := (S1.out.blk 1 rfl).cell 2; have y3 := (S1.out.blk 1 rfl).cell 3; have yz := (S1.out.blk 1 rfl).lt; have b0 := (S1.out.blk 2 rfl).cell 0; have b1 := (S1.out.blk 2 rfl).cell 1; have b2 := (S1.out.blk 2 rfl).cell 2; have b3 := (S1.out.blk 2 rfl).cell 3; have bz := (S1.out.blk 2 rfl).lt; clear Z)))
            have nL := Lib.hid ((S2.out.rdx 0 rfl).nI)
            have pL := (S2.out.rdx 0 rfl).ptr
            have sL := (S2.out.rdx 0 rfl).small
            have S3 := Lib.hid ((S2.out.nilrow 81 4).pick [0, 1, 2] (by decide) rfl : Sep w w2 [.own 81 4 none 0 0 [], .own 3 1 q L.length c (encI L), .blk (w.heap.size + 1 + 1) 45 #[.int .i64 s, .int .i64 1, .int .i64 v, .int .i64 d]])
            clear y0 y1 y2 y3 yz a0 a4 az S2 S1 S0 HC HG
            go_loopw [11, 13, 69] (fun m _ i wr => ∃ (j : Nat) (q' : Option Addr) (c' : Nat), j ≤ L.length ∧ i = .int .i64 j ∧ m = .slice q' j c' ∧ Sep w wr [.own 81 4 q' j c' (encQ ((L.take j).map fun v => (⟨s, 1, v, d + 1⟩ : Sq))), .own 3 1 q L.length c (encI L), .blk (w.heap.size + 1 + 1) 45 #[.int .i64 s, .int .i64 1, .int .i64 v, .int .i64 d]]) (fun _ _ i _ => L.length - (intOf i).toNat)
            case atStart => exact ⟨0, none, 0, Nat.zero_le _, rfl, rfl, S3.out⟩
            case round =>
              clear S3
              obtain ⟨j, q', c', hj, rfl, rfl, S⟩ := hrel
              by_cases hlt : j < L.length
              · have g1 := (S.rdx 1 rfl).cI hlt
                have HT := Lib.hid (take_succ_nth L j hlt)
                have d1 : (0:Int) ≤ j := by omega
                have d2 : (j:Int) < L.length := by omega
                have hl := HL.out
                have y0 := ((Lib.hid S).out.blk 2 rfl).cell 0; have y1 := ((Lib.hid S).out.blk 2 rfl).cell 1; have y2 := ((Lib.hid S).out.blk 2 rfl).cell 2; have y3 := ((Lib.hid S).out.blk 2 rfl).cell 3; have yz := ((Lib.hid S).out.blk 2 rfl).lt
                have SH := Lib.hid S; clear S
                generalize nth L j = u at *
                go_wp2_with (at_builtin; go_must (refine wpList_append_sep rfl _ _ _ rfl 81 i0 _ 4 32 Tryz.underlying27 hi0 hz0 hz1 hz2 rfl (by omega) (SH.out.junk _) 0 q' j c' _ rfl rfl _ 1 1 _ rfl (Rd.oneQ _ _ ⟨s, 1, u, d + 1⟩) (one_encQ _) (by omega) (by omega) ?_; intro q7 c7 w7 S' hsz; have S7 := Lib.hid S'; clear S' hsz))
                go_roundw
                case rel => exact ⟨j + 1, q7, c7, by omega, by go_num, rfl, by rw [HT.out, List.map_append, encQ_append]; exact S7.out⟩
                case measure => simp [intOf]; omega
              · obtain rfl : j = L.length := by omega
                rw [List.take_length] at S
                have SH := Lib.hid S; clear S
                go_wp2
                go_ret2
                exact ⟨q', c', rfl, SH.out.pick [0] (by decide) rfl⟩
      · rw [nxC_1 (fun h => hd h.2.2), nxL_no (Or.inl (by decide))]
        by_cases hd0 : 0 ≤ d
        · have e1 : decide (d < 0) = false := by simpa using hd0
          have e2 : decide (200 < d) = true := by simp; omega
          clear hd
          go_enter Tryz.func19, Tryz.ntmps19
          go_wp2_with (first | (go_at_call 56; go_must (refine (HC.out _ S1.out.ext).mono ?_; rintro e w2 ⟨rfl, hb⟩; have S2 := Lib.hid (S1.out.call hb); clear y0 y1 y2 y3 yz b0 b1 b2 b3 bz hb; have y0 := (S2.out.blk 1 rfl).cell 0; have y1 := (S2.out.blk 1 rfl).cell 1; have y2 := (S2.out.blk 1 rfl).cell 2; have y3 := (S2.out.blk 1 rfl).cell 3; have yz := (S2.out.blk 1 rfl).lt; have a0 := (S2.out.blk 3 rfl).cell 0; have a4 := (S2.out.blk 3 rfl).cell 4; have az := (S2.out.blk 3 rfl).lt)) | (go_at_call 55; go_must (refine (HG.out _ S0.out.ext).mono ?_; rintro e w1 ⟨q, c, rfl, Z⟩; have S1 := Lib.hid (S0.out.comp Z); have y0 := (S1.out.blk 1 rfl).cell 0; have y1 := (S1.out.blk 1 rfl).cell 1; have y2 := (S1.out.blk 1 rfl).cell 2; have y3 := (S1.out.blk 1 rfl).cell 3; have yz := (S1.out.blk 1 rfl).lt; have b0 := (S1.out.blk 2 rfl).cell 0; have b1 := (S1.out.blk 2 rfl).cell 1; have b2 := (S1.out.blk 2 rfl).cell 2; have b3 := (S1.out.blk 2 rfl).cell 3; have bz := (S1.out.blk 2 rfl).lt; clear Z)))
          go_ret2
          exact ⟨none, 0, rfl, (S2.out.nilrow _ _).pick [0] (by decide) rfl⟩
        · have e1 : decide (d < 0) = true := by simpa using hd0
          clear hd
          go_enter Tryz.func19, Tryz.ntmps19
          go_wp2_with (first | (go_at_call 56; go_must (refine (HC.out _ S1.out.ext).mono ?_; rintro e w2 ⟨rfl, hb⟩; have S2 := Lib.hid (S1.out.call hb); clear y0 y1 y2 y3 yz b0 b1 b2 b3 bz hb; have y0 := (S2.out.blk 1 rfl).cell 0; have y1 := (S2.out.blk 1 rfl).cell 1; have y2 := (S2.out.blk 1 rfl).cell 2; have y3 := (S2.out.blk 1 rfl).cell 3; have yz := (S2.out.blk 1 rfl).lt; have a0 := (S2.out.blk 3 rfl).cell 0; have a4 := (S2.out.blk 3 rfl).cell 4; have az := (S2.out.blk 3 rfl).lt)) | (go_at_call 55; go_must (refine (HG.out _ S0.out.ext).mono ?_; rintro e w1 ⟨q, c, rfl, Z⟩; have S1 := Lib.hid (S0.out.comp Z); have y0 := (S1.out.blk 1 rfl).cell 0; have y1 := (S1.out.blk 1 rfl).cell 1; have y2 := (S1.out.blk 1 rfl).cell 2; have y3 := (S1.out.blk 1 rfl).cell 3; have yz := (S1.out.blk 1 rfl).lt; have b0 := (S1.out.blk 2 rfl).cell 0; have b1 := (S1.out.blk 2 rfl).cell 1; have b2 := (S1.out.blk 2 rfl).cell 2; have b3 := (S1.out.blk 2 rfl).cell 3; have bz := (S1.out.blk 2 rfl).lt; clear Z)))
          go_ret2
          exact ⟨none, 0, rfl, (S2.out.nilrow _ _).pick [0] (by decide) rfl⟩
set_option maxRecDepth 100000 in
set_option maxHeartbeats 8000000 in
theorem NextOut (k f t : Int) (pw : Option Addr) (nw cw : Nat) (rad most : Int) (po : Option Addr) (no co : Nat) (O : List Int) (pt : Option Addr) (nt ct : Nat) (T : List Int) (pr : Option Addr) (nr cr : Nat) (R : List Int) (pv : Option Addr) (nv cv : Nat) (V : List Int) (w : World) (s v d : Int) (hO : Rd w 1 po no (encI O)) (hT : Rd w 1 pt nt (encI T)) (hR : Rd w 1 pr nr (encI R)) (hV : Rd w 1 pv nv (encI V)) (hct : nt ≤ ct) (hcv : nv ≤ cv) (hb : checkR O T R V = true → (outL (checkR O T R V) O T v).length ≤ 100000) :
    Calls Tryz.prog 19 #[.agg #[.int .i64 k, .int .i64 f, .int .i64 t, .slice pw nw cw, .int .i64 rad, .int .i64 most], .agg #[.slice po no co, .slice pt nt ct, .slice pr nr cr, .slice pv nv cv], .agg #[.int .i64 s, .int .i64 0, .int .i64 v, .int .i64 d]] w fun e w' => ∃ q c, e = .returned (.tuple #[.slice q (nextL k rad (checkR O T R V) O T R V ⟨s, 0, v, d⟩).length c, .int .i64 (nextC (checkR O T R V) O R ⟨s, 0, v, d⟩)]) ∧ Sep w w' [.own 81 4 q (nextL k rad (checkR O T R V) O T R V ⟨s, 0, v, d⟩).length c (encQ (nextL k rad (checkR O T R V) O T R V ⟨s, 0, v, d⟩))] := by
  obtain ⟨i0, hi0, hz0, hz1, hz2⟩ := info_parts infMail
  have S0 := Lib.hid ((((Sep.start w).al #[.int .i64 k, .int .i64 f, .int .i64 t, .slice pw nw cw, .int .i64 rad, .int .i64 most] 24 w.heap.size rfl).al #[.slice po no co, .slice pt nt ct, .slice pr nr cr, .slice pv nv cv] 41 (w.heap.size + 1) (by simp)).al #[.int .i64 s, .int .i64 0, .int .i64 v, .int .i64 d] 45 (w.heap.size + 1 + 1) (by simp))
  have HC := Lib.hid (fun W1 (h : Ext w W1) => CheckR po no co O pt nt ct T pr nr cr R pv nv cv V W1 (hO.ext h) (hT.ext h) (hR.ext h) (hV.ext h) hct hcv)
  have HG := Lib.hid (fun W1 (h : Ext w W1) => OutG po no co O pt nt ct T pr nr cr R pv nv cv V W1 v (hO.ext h) (hT.ext h) (hR.ext h) (hV.ext h) hct hcv)
  unfold nextL nextC
  have hdir : ((0:Int) = 1) = False := by decide
  simp only [hdir, if_false]
  clear hdir
  clear hO hT hR hV
  cases hck : checkR O T R V with
  | false =>
    rw [hck] at HC HG
    rw [nxC_40, nxL_no (Or.inl (by decide))]
    clear hck hb
    generalize outL false O T v = L at *
    generalize outB false O v = ob at *
    go_enter Tryz.func19, Tryz.ntmps19
    go_wp2_with (first | (go_at_call 56; go_must (refine (HC.out _ S1.out.ext).mono ?_; rintro e w2 ⟨rfl, hb⟩; have S2 := Lib.hid (S1.out.call hb); clear y0 y1 y2 y3 yz b0 b1 b2 b3 bz hb; have y0 := (S2.out.blk 1 rfl).cell 0; have y1 := (S2.out.blk 1 rfl).cell 1; have y2 := (S2.out.blk 1 rfl).cell 2; have y3 := (S2.out.blk 1 rfl).cell 3; have yz := (S2.out.blk 1 rfl).lt; have a0 := (S2.out.blk 3 rfl).cell 0; have a4 := (S2.out.blk 3 rfl).cell 4; have az := (S2.out.blk 3 rfl).lt)) | (go_at_call 54; go_must (refine (HG.out _ S0.out.ext).mono ?_; rintro e w1 ⟨q, c, rfl, Z⟩; have S1 := Lib.hid (S0.out.comp Z); have y0 := (S1.out.blk 1 rfl).cell 0; have y1 := (S1.out.blk 1 rfl).cell 1; have y2 := (S1.out.blk 1 rfl).cell 2; have y3 := (S1.out.blk 1 rfl).cell 3; have yz := (S1.out.blk 1 rfl).lt; have b0 := (S1.out.blk 2 rfl).cell 0; have b1 := (S1.out.blk 2 rfl).cell 1; have b2 := (S1.out.blk 2 rfl).cell 2; have b3 := (S1.out.blk 2 rfl).cell 3; have bz := (S1.out.blk 2 rfl).lt; clear Z)))
    go_ret2
    exact ⟨none, 0, rfl, (S2.out.nilrow _ _).pick [0] (by decide) rfl⟩
  | true =>
    rw [hck] at HC HG
    have hbL := hb hck
    rw [hck] at hbL
    clear hck hb
    generalize outL true O T v = L at *
    cases hob : outB true O v with
    | false =>
      rw [hob] at HG
      rw [nxC_1 (fun h => by cases h.1), nxL_no (Or.inl (by decide))]
      clear hob
      go_enter Tryz.func19, Tryz.ntmps19
      go_wp2_with (first | (go_at_call 56; go_must (refine (HC.out _ S1.out.ext).mono ?_; rintro e w2 ⟨rfl, hb⟩; have S2 := Lib.hid (S1.out.call hb); clear y0 y1 y2 y3 yz b0 b1 b2 b3 bz hb; have y0 := (S2.out.blk 1 rfl).cell 0; have y1 := (S2.out.blk 1 rfl).cell 1; have y2 := (S2.out.blk 1 rfl).cell 2; have y3 := (S2.out.blk 1 rfl).cell 3; have yz := (S2.out.blk 1 rfl).lt; have a0 := (S2.out.blk 3 rfl).cell 0; have a4 := (S2.out.blk 3 rfl).cell 4; have az := (S2.out.blk 3 rfl).lt)) | (go_at_call 54; go_must (refine (HG.out _ S0.out.ext).mono ?_; rintro e w1 ⟨q, c, rfl, Z⟩; have S1 := Lib.hid (S0.out.comp Z); have y0 := (S1.out.blk 1 rfl).cell 0; have y1 := (S1.out.blk 1 rfl).cell 1; have y2 := (S1.out.blk 1 rfl).cell 2; have y3 := (S1.out.blk 1 rfl).cell 3; have yz := (S1.out.blk 1 rfl).lt; have b0 := (S1.out.blk 2 rfl).cell 0; have b1 := (S1.out.blk 2 rfl).cell 1; have b2 := (S1.out.blk 2 rfl).cell 2; have b3 := (S1.out.blk 2 rfl).cell 3; have bz := (S1.out.blk 2 rfl).lt; clear Z)))
      go_ret2
      exact ⟨none, 0, rfl, (S2.out.nilrow _ _).pick [0] (by decide) rfl⟩
    | true =>
      rw [hob] at HG
      clear hob
      by_cases hd : 0 ≤ d ∧ d ≤ 200
      · rw [nxC_0 ⟨rfl, Or.inl rfl, hd⟩]
        obtain ⟨hd0, hd1⟩ := hd
        by_cases h3 : k = 3 ∧ rad ≤ d
        · rw [nxL_no (Or.inr h3)]
          obtain ⟨rfl, h3⟩ := h3
          go_enter Tryz.func19, Tryz.ntmps19
          go_wp2_with (first | (go_at_call 56; go_must (refine (HC.out _ S1.out.ext).mono ?_; rintro e w2 ⟨rfl, hb⟩; have S2 := Lib.hid (S1.out.call hb); clear y0 y1 y2 y3 yz b0 b1 b2 b3 bz hb; have y0 := (S2.out.blk 1 rfl).cell 0; have y1 := (S2.out.blk 1 rfl).cell 1; have y2 := (S2.out.blk 1 rfl).cell 2; have y3 := (S2.out.blk 1 rfl).cell 3; have yz := (S2.out.blk 1 rfl).lt; have a0 := (S2.out.blk 3 rfl).cell 0; have a4 := (S2.out.blk 3 rfl).cell 4; have az := (S2.out.blk 3 rfl).lt)) | (go_at_call 54; go_must (refine (HG.out _ S0.out.ext).mono ?_; rintro e w1 ⟨q, c, rfl, Z⟩; have S1 := Lib.hid (S0.out.comp Z); have y0 := (S1.out.blk 1 rfl).cell 0; have y1 := (S1.out.blk 1 rfl).cell 1; have y2 := (S1.out.blk 1 rfl).cell 2; have y3 := (S1.out.blk 1 rfl).cell 3; have yz := (S1.out.blk 1 rfl).lt; have b0 := (S1.out.blk 2 rfl).cell 0; have b1 := (S1.out.blk 2 rfl).cell 1; have b2 := (S1.out.blk 2 rfl).cell 2; have b3 := (S1.out.blk 2 rfl).cell 3; have bz := (S1.out.blk 2 rfl).lt; clear Z)))
          go_ret2
          exact ⟨none, 0, rfl, (S2.out.nilrow _ _).pick [0] (by decide) rfl⟩
        · rw [nxL_yes rfl h3, List.length_map]
          have HL := Lib.hid hbL
          clear hbL
          have H3 : Hid (k = 3 → d < rad) := fun e => Int.not_le.1 fun h => h3 ⟨e, h⟩
          have hk3 : (k == 3) = true ∧ decide (rad ≤ d) = false ∨ (k == 3) = false := by
            by_cases e : k = 3
            · exact .inl ⟨by simpa using e, by simpa using H3.out e⟩
            · exact .inr (by simpa using e)
          clear H3 h3
          rcases hk3 with ⟨k3, k4⟩ | k3
          · obtain rfl : k = 3 := by simpa using k3
            clear k3
            go_enter Tryz.func19, Tryz.ntmps19
            go_wp2_with (first | (go_at_call 56; go_must (refine (HC.out _ S1.out.ext).mono ?_; rintro e w2 ⟨rfl, hb⟩; have S2 := Lib.hid (S1.out.call hb); clear y0 y1 y2 y3 yz b0 b1 b2 b3 bz hb; have y0 := (S2.out.blk 1 rfl).cell 0; have y1 := (S2.out.blk 1 rfl).cell 1; have y2 := (S2.out.blk 1 rfl).cell 2; have y3 := (S2.out.blk 1 rfl).cell 3; have yz := (S2.out.blk 1 rfl).lt; have a0 := (S2.out.blk 3 rfl).cell 0; have a4 := (S2.out.blk 3 rfl).cell 4; have az := (S2.out.blk 3 rfl).lt)) | (go_at_call 54; go_must (refine (HG.out _ S0.out.ext).mono ?_; rintro e w1 ⟨q, c, rfl, Z⟩; have S1 := Lib.hid (S0.out.comp Z); have y0 := (S1.out.blk 1 rfl).cell 0; have y1 := (S1.out.blk 1 rfl).cell 1; have y2 := (S1.out.blk 1 rfl).cell 2; have y3 := (S1.out.blk 1 rfl).cell 3; have yz := (S1.out.blk 1 rfl).lt; have b0 := (S1.out.blk 2 rfl).cell 0; have b1 := (S1.out.blk 2 rfl).cell 1; have b2 := (S1.out.blk 2 rfl).cell 2; have b3 := (S1.out.blk 2 rfl).cell 3; have bz := (S1.out.blk 2 rfl).lt; clear Z)))
            have nL := Lib.hid ((S2.out.rdx 0 rfl).nI)
            have pL := (S2.out.rdx 0 rfl).ptr
            have sL := (S2.out.rdx 0 rfl).small
            have S3 := Lib.hid ((S2.out.nilrow 81 4).pick [0, 1, 2] (by decide) rfl : Sep w w2 [.own 81 4 none 0 0 [], .own 3 1 q L.length c (encI L), .blk (w.heap.size + 1 + 1) 45 #[.int .i64 s, .int .i64 0, .int .i64 v, .int .i64 d]])
            clear y0 y1 y2 y3 yz a0 a4 az S2 S1 S0 HC HG
            go_loopw [11, 13, 69] (fun m _ i wr => ∃ (j : Nat) (q' : Option Addr) (c' : Nat), j ≤ L.length ∧ i = .int .i64 j ∧ m = .slice q' j c' ∧ Sep w wr [.own 81 4 q' j c' (encQ ((L.take j).map fun v => (⟨s, 0, v, d + 1⟩ : Sq))), .own 3 1 q L.length c (encI L), .blk (w.heap.size + 1 + 1) 45 #[.int .i64 s, .int .i64 0, .int .i64 v, .int .i64 d]]) (fun _ _ i _ => L.length - (intOf i).toNat)
            case atStart => exact ⟨0, none, 0, Nat.zero_le _, rfl, rfl, S3.out⟩
            case round =>
              clear S3
              obtain ⟨j, q', c', hj, rfl, rfl, S⟩ := hrel
              by_cases hlt : j < L.length
              · have g1 := (S.rdx 1 rfl).cI hlt
                have HT := Lib.hid (take_succ_nth L j hlt)
                have d1 : (0:Int) ≤ j := by omega
                have d2 : (j:Int) < L.length := by omega
                have hl := HL.out
                have y0 := ((Lib.hid S).out.blk 2 rfl).cell 0; have y1 := ((Lib.hid S).out.blk 2 rfl).cell 1; have y2 := ((Lib.hid S).out.blk 2 rfl).cell 2; have y3 := ((Lib.hid S).out.blk 2 rfl).cell 3; have yz := ((Lib.hid S).out.blk 2 rfl).lt
                have SH := Lib.hid S; clear S
                generalize nth L j = u at *
                go_wp2_with (at_builtin; go_must (refine wpList_append_sep rfl _ _ _ rfl 81 i0 _ 4 32 Tryz.underlying27 hi0 hz0 hz1 hz2 rfl (by omega) (SH.out.junk _) 0 q' j c' _ rfl rfl _ 1 1 _ rfl (Rd.oneQ _ _ ⟨s, 0, u, d + 1⟩) (one_encQ _) (by omega) (by omega) ?_; intro q7 c7 w7 S' hsz; have S7 := Lib.hid S'; clear S' hsz))
                go_roundw
                case rel => exact ⟨j + 1, q7, c7, by omega, by go_num, rfl, by rw [HT.out, List.map_append, encQ_append]; exact S7.out⟩
                case measure => simp [intOf]; omega
              · obtain rfl : j = L.length := by omega
                rw [List.take_length] at S
                have SH := Lib.hid S; clear S
                go_wp2
                go_ret2
                exact ⟨q', c', rfl, SH.out.pick [0] (by decide) rfl⟩
          · go_enter Tryz.func19, Tryz.ntmps19
            go_wp2_with (first | (go_at_call 56; go_must (refine (HC.out _ S1.out.ext).mono ?_; rintro e w2 ⟨rfl, hb⟩; have S2 := Lib.hid (S1.out.call hb); clear y0 y1 y2 y3 yz b0 b1 b2 b3 bz hb; have y0 := (S2.out.blk 1 rfl).cell 0; have y1 := (S2.out.blk 1 rfl).cell 1; have y2 := (S2.out.blk 1 rfl).cell 2; have y3 := (S2.out.blk 1 rfl).cell 3; have yz := (S2.out.blk 1 rfl).lt; have a0 := (S2.out.blk 3 rfl).cell 0; have a4 := (S2.out.blk 3 rfl).cell 4; have az := (S2.out.blk 3 rfl).lt)) | (go_at_call 54; go_must (refine (HG.out _ S0.out.ext).mono ?_; rintro e w1 ⟨q, c, rfl, Z⟩; have S1 := Lib.hid (S0.out.comp Z); have y0 := (S1.out.blk 1 rfl).cell 0; have y1 := (S1.out.blk 1 rfl).cell 1; have y2 := (S1.out.blk 1 rfl).cell 2; have y3 := (S1.out.blk 1 rfl).cell 3; have yz := (S1.out.blk 1 rfl).lt; have b0 := (S1.out.blk 2 rfl).cell 0; have b1 := (S1.out.blk 2 rfl).cell 1; have b2 := (S1.out.blk 2 rfl).cell 2; have b3 := (S1.out.blk 2 rfl).cell 3; have bz := (S1.out.blk 2 rfl).lt; clear Z)))
            have nL := Lib.hid ((S2.out.rdx 0 rfl).nI)
            have pL := (S2.out.rdx 0 rfl).ptr
            have sL := (S2.out.rdx 0 rfl).small
            have S3 := Lib.hid ((S2.out.nilrow 81 4).pick [0, 1, 2] (by decide) rfl : Sep w w2 [.own 81 4 none 0 0 [], .own 3 1 q L.length c (encI L), .blk (w.heap.size + 1 + 1) 45 #[.int .i64 s, .int .i64 0, .int .i64 v, .int .i64 d]])
            clear y0 y1 y2 y3 yz a0 a4 az S2 S1 S0 HC HG
            go_loopw [11, 13, 69] (fun m _ i wr => ∃ (j : Nat) (q' : Option Addr) (c' : Nat), j ≤ L.length ∧ i = .int .i64 j ∧ m = .slice q' j c' ∧ Sep w wr [.own 81 4 q' j c' (encQ ((L.take j).map fun v => (⟨s, 0, v, d + 1⟩ : Sq))), .own 3 1 q L.length c (encI L), .blk (w.heap.size + 1 + 1) 45 #[.int .i64 s, .int .i64 0, .int .i64 v, .int .i64 d]]) (fun _ _ i _ => L.length - (intOf i).toNat)
            case atStart => exact ⟨0, none, 0, Nat.zero_le _, rfl, rfl, S3.out⟩
            case round =>
              clear S3
              obtain ⟨j, q', c', hj, rfl, rfl, S⟩ := hrel
              by_cases hlt : j < L.length
              · have g1 := (S.rdx 1 rfl).cI hlt
                have HT := Lib.hid (take_succ_nth L j hlt)
                have d1 : (0:Int) ≤ j := by omega
                have d2 : (j:Int) < L.length := by omega
                have hl := HL.out
                have y0 := ((Lib.hid S).out.blk 2 rfl).cell 0; have y1 := ((Lib.hid S).out.blk 2 rfl).cell 1; have y2 := ((Lib.hid S).out.blk 2 rfl).cell 2; have y3 := ((Lib.hid S).out.blk 2 rfl).cell 3; have yz := ((Lib.hid S).out.blk 2 rfl).lt
                have SH := Lib.hid S; clear S
                generalize nth L j = u at *
                go_wp2_with (at_builtin; go_must (refine wpList_append_sep rfl _ _ _ rfl 81 i0 _ 4 32 Tryz.underlying27 hi0 hz0 hz1 hz2 rfl (by omega) (SH.out.junk _) 0 q' j c' _ rfl rfl _ 1 1 _ rfl (Rd.oneQ _ _ ⟨s, 0, u, d + 1⟩) (one_encQ _) (by omega) (by omega) ?_; intro q7 c7 w7 S' hsz; have S7 := Lib.hid S'; clear S' hsz))
                go_roundw
                case rel => exact ⟨j + 1, q7, c7, by omega, by go_num, rfl, by rw [HT.out, List.map_append, encQ_append]; exact S7.out⟩
                case measure => simp [intOf]; omega
              · obtain rfl : j = L.length := by omega
                rw [List.take_length] at S
                have SH := Lib.hid S; clear S
                go_wp2
                go_ret2
                exact ⟨q', c', rfl, SH.out.pick [0] (by decide) rfl⟩
      · rw [nxC_1 (fun h => hd h.2.2), nxL_no (Or.inl (by decide))]
        by_cases hd0 : 0 ≤ d
        · have e1 : decide (d < 0) = false := by simpa using hd0
          have e2 : decide (200 < d) = true := by simp; omega
          clear hd
          go_enter Tryz.func19, Tryz.ntmps19
          go_wp2_with (first | (go_at_call 56; go_must (refine (HC.out _ S1.out.ext).mono ?_; rintro e w2 ⟨rfl, hb⟩; have S2 := Lib.hid (S1.out.call hb); clear y0 y1 y2 y3 yz b0 b1 b2 b3 bz hb; have y0 := (S2.out.blk 1 rfl).cell 0; have y1 := (S2.out.blk 1 rfl).cell 1; have y2 := (S2.out.blk 1 rfl).cell 2; have y3 := (S2.out.blk 1 rfl).cell 3; have yz := (S2.out.blk 1 rfl).lt; have a0 := (S2.out.blk 3 rfl).cell 0; have a4 := (S2.out.blk 3 rfl).cell 4; have az := (S2.out.blk 3 rfl).lt)) | (go_at_call 54; go_must (refine (HG.out _ S0.out.ext).mono ?_; rintro e w1 ⟨q, c, rfl, Z⟩; have S1 := Lib.hid (S0.out.comp Z); have y0 := (S1.out.blk 1 rfl).cell 0; have y1 := (S1.out.blk 1 rfl).cell 1; have y2 := (S1.out.blk 1 rfl).cell 2; have y3 := (S1.out.blk 1 rfl).cell 3; have yz := (S1.out.blk 1 rfl).lt; have b0 := (S1.out.blk 2 rfl).cell 0; have b1 := (S1.out.blk 2 rfl).cell 1; have b2 := (S1.out.blk 2 rfl).cell 2; have b3 := (S1.out.blk 2 rfl).cell 3; have bz := (S1.out.blk 2 rfl).lt; clear Z)))
          go_ret2
          exact ⟨none, 0, rfl, (S2.out.nilrow _ _).pick [0] (by decide) rfl⟩
        · have e1 : decide (d < 0) = true := by simpa using hd0
          clear hd
          go_enter Tryz.func19, Tryz.ntmps19
          go_wp2_with (first | (go_at_call 56; go_must (refine (HC.out _ S1.out.ext).mono ?_; rintro e w2 ⟨rfl, hb⟩; have S2 := Lib.hid (S1.out.call hb); clear y0 y1 y2 y3 yz b0 b1 b2 b3 bz hb; have y0 := (S2.out.blk 1 rfl).cell 0; have y1 := (S2.out.blk 1 rfl).cell 1; have y2 := (S2.out.blk 1 rfl).cell 2; have y3 := (S2.out.blk 1 rfl).cell 3; have yz := (S2.out.blk 1 rfl).lt; have a0 := (S2.out.blk 3 rfl).cell 0; have a4 := (S2.out.blk 3 rfl).cell 4; have az := (S2.out.blk 3 rfl).lt)) | (go_at_call 54; go_must (refine (HG.out _ S0.out.ext).mono ?_; rintro e w1 ⟨q, c, rfl, Z⟩; have S1 := Lib.hid (S0.out.comp Z); have y0 := (S1.out.blk 1 rfl).cell 0; have y1 := (S1.out.blk 1 rfl).cell 1; have y2 := (S1.out.blk 1 rfl).cell 2; have y3 := (S1.out.blk 1 rfl).cell 3; have yz := (S1.out.blk 1 rfl).lt; have b0 := (S1.out.blk 2 rfl).cell 0; have b1 := (S1.out.blk 2 rfl).cell 1; have b2 := (S1.out.blk 2 rfl).cell 2; have b3 := (S1.out.blk 2 rfl).cell 3; have bz := (S1.out.blk 2 rfl).lt; clear Z)))
          go_ret2
          exact ⟨none, 0, rfl, (S2.out.nilrow _ _).pick [0] (by decide) rfl⟩
end Go.Proofs.YtkekibnhmfmhmaaGreat
/- Chapter 18: how a query goes on from a place, whatever is asked (the program's Next). -/
namespace Go.Proofs.YtkekibnhmfmhmaaGreat
open Go Go.RowKit
set_option maxRecDepth 100000 in
set_option maxHeartbeats 8000000 in
theorem NextBad (k f t : Int) (pw : Option Addr) (nw cw : Nat) (rad most : Int) (po : Option Addr) (no co : Nat) (O : List Int) (pt : Option Addr) (nt ct : Nat) (T : List Int) (pr : Option Addr) (nr cr : Nat) (R : List Int) (pv : Option Addr) (nv cv : Nat) (V : List Int) (w : World) (s r v d : Int) (hO : Rd w 1 po no (encI O)) (hT : Rd w 1 pt nt (encI T)) (hR : Rd w 1 pr nr (encI R)) (hV : Rd w 1 pv nv (encI V)) (hct : nt ≤ ct) (hcv : nv ≤ cv) (h0 : r ≠ 0) (h1 : r ≠ 1) :
    Calls Tryz.prog 19 #[.agg #[.int .i64 k, .int .i64 f, .int .i64 t, .slice pw nw cw, .int .i64 rad, .int .i64 most], .agg #[.slice po no co, .slice pt nt ct, .slice pr nr cr, .slice pv nv cv], .agg #[.int .i64 s, .int .i64 r, .int .i64 v, .int .i64 d]] w fun e w' => ∃ q c, e = .returned (.tuple #[.slice q (nextL k rad (checkR O T R V) O T R V ⟨s, r, v, d⟩).length c, .int .i64 (nextC (checkR O T R V) O R ⟨s, r, v, d⟩)]) ∧ Sep w w' [.own 81 4 q (nextL k rad (checkR O T R V) O T R V ⟨s, r, v, d⟩).length c (encQ (nextL k rad (checkR O T R V) O T R V ⟨s, r, v, d⟩))] := by
  have S0 := Lib.hid ((((Sep.start w).al #[.int .i64 k, .int .i64 f, .int .i64 t, .slice pw nw cw, .int .i64 rad, .int .i64 most] 24 w.heap.size rfl).al #[.slice po no co, .slice pt nt ct, .slice pr nr cr, .slice pv nv cv] 41 (w.heap.size + 1) (by simp)).al #[.int .i64 s, .int .i64 r, .int .i64 v, .int .i64 d] 45 (w.heap.size + 1 + 1) (by simp))
  have HC := Lib.hid (fun W1 (h : Ext w W1) => CheckR po no co O pt nt ct T pr nr cr R pv nv cv V W1 (hO.ext h) (hT.ext h) (hR.ext h) (hV.ext h) hct hcv)
  have HG := Lib.hid (fun W1 (h : Ext w W1) => OutG po no co O pt nt ct T pr nr cr R pv nv cv V W1 v (hO.ext h) (hT.ext h) (hR.ext h) (hV.ext h) hct hcv)
  unfold nextL nextC
  simp only [if_neg h1]
  clear hO hT hR hV
  have e1 : (r == 1) = false := by simpa using h1
  have e0 : (r != 0) = true := by simpa using h0
  have e2 : (r != 1) = true := by simpa using h1
  generalize hck : checkR O T R V = ck at *
  have HN : Hid (nxC ck (outB ck O v) ⟨s, r, v, d⟩ = if ck = false then 40 else 1) := by
    unfold Hid nxC
    cases ck with
    | false => rfl
    | true => simp [h0, h1]
  rw [HN.out, nxL_no (Or.inl (by cases ck <;> decide))]
  clear HN h0 h1 hck
  generalize outL ck O T v = L at *
  generalize outB ck O v = ob at *
  cases ck with
  | false =>
    go_enter Tryz.func19, Tryz.ntmps19
    go_wp2_with (first | (go_at_call 56; go_must (refine (HC.out _ S1.out.ext).mono ?_; rintro e w2 ⟨rfl, hb⟩; have S2 := Lib.hid (S1.out.call hb); clear y0 y1 y2 y3 yz b0 b1 b2 b3 bz hb; have y0 := (S2.out.blk 1 rfl).cell 0; have y1 := (S2.out.blk 1 rfl).cell 1; have y2 := (S2.out.blk 1 rfl).cell 2; have y3 := (S2.out.blk 1 rfl).cell 3; have yz := (S2.out.blk 1 rfl).lt; have a0 := (S2.out.blk 3 rfl).cell 0; have a4 := (S2.out.blk 3 rfl).cell 4; have az := (S2.out.blk 3 rfl).lt)) | (go_at_call 54; go_must (refine (HG.out _ S0.out.ext).mono ?_; rintro e w1 ⟨q, c, rfl, Z⟩; have S1 := Lib.hid (S0.out.comp Z); have y0 := (S1.out.blk 1 rfl).cell 0; have y1 := (S1.out.blk 1 rfl).cell 1; have y2 := (S1.out.blk 1 rfl).cell 2; have y3 := (S1.out.blk 1 rfl).cell 3; have yz := (S1.out.blk 1 rfl).lt; have b0 := (S1.out.blk 2 rfl).cell 0; have b1 := (S1.out.blk 2 rfl).cell 1; have b2 := (S1.out.blk 2 rfl).cell 2; have b3 := (S1.out.blk 2 rfl).cell 3; have bz := (S1.out.blk 2 rfl).lt; clear Z)))
    go_ret2
    exact ⟨none, 0, rfl, (S2.out.nilrow _ _).pick [0] (by decide) rfl⟩
  | true =>
    cases ob with
    | false =>
      go_enter Tryz.func19, Tryz.ntmps19
      go_wp2_with (first | (go_at_call 56; go_must (refine (HC.out _ S1.out.ext).mono ?_; rintro e w2 ⟨rfl, hb⟩; have S2 := Lib.hid (S1.out.call hb); clear y0 y1 y2 y3 yz b0 b1 b2 b3 bz hb; have y0 := (S2.out.blk 1 rfl).cell 0; have y1 := (S2.out.blk 1 rfl).cell 1; have y2 := (S2.out.blk 1 rfl).cell 2; have y3 := (S2.out.blk 1 rfl).cell 3; have yz := (S2.out.blk 1 rfl).lt; have a0 := (S2.out.blk 3 rfl).cell 0; have a4 := (S2.out.blk 3 rfl).cell 4; have az := (S2.out.blk 3 rfl).lt)) | (go_at_call 54; go_must (refine (HG.out _ S0.out.ext).mono ?_; rintro e w1 ⟨q, c, rfl, Z⟩; have S1 := Lib.hid (S0.out.comp Z); have y0 := (S1.out.blk 1 rfl).cell 0; have y1 := (S1.out.blk 1 rfl).cell 1; have y2 := (S1.out.blk 1 rfl).cell 2; have y3 := (S1.out.blk 1 rfl).cell 3; have yz := (S1.out.blk 1 rfl).lt; have b0 := (S1.out.blk 2 rfl).cell 0; have b1 := (S1.out.blk 2 rfl).cell 1; have b2 := (S1.out.blk 2 rfl).cell 2; have b3 := (S1.out.blk 2 rfl).cell 3; have bz := (S1.out.blk 2 rfl).lt; clear Z)))
      go_ret2
      exact ⟨none, 0, rfl, (S2.out.nilrow _ _).pick [0] (by decide) rfl⟩
    | true =>
      go_enter Tryz.func19, Tryz.ntmps19
      go_wp2_with (first | (go_at_call 56; go_must (refine (HC.out _ S1.out.ext).mono ?_; rintro e w2 ⟨rfl, hb⟩; have S2 := Lib.hid (S1.out.call hb); clear y0 y1 y2 y3 yz b0 b1 b2 b3 bz hb; have y0 := (S2.out.blk 1 rfl).cell 0; have y1 := (S2.out.blk 1 rfl).cell 1; have y2 := (S2.out.blk 1 rfl).cell 2; have y3 := (S2.out.blk 1 rfl).cell 3; have yz := (S2.out.blk 1 rfl).lt; have a0 := (S2.out.blk 3 rfl).cell 0; have a4 := (S2.out.blk 3 rfl).cell 4; have az := (S2.out.blk 3 rfl).lt)) | (go_at_call 54; go_must (refine (HG.out _ S0.out.ext).mono ?_; rintro e w1 ⟨q, c, rfl, Z⟩; have S1 := Lib.hid (S0.out.comp Z); have y0 := (S1.out.blk 1 rfl).cell 0; have y1 := (S1.out.blk 1 rfl).cell 1; have y2 := (S1.out.blk 1 rfl).cell 2; have y3 := (S1.out.blk 1 rfl).cell 3; have yz := (S1.out.blk 1 rfl).lt; have b0 := (S1.out.blk 2 rfl).cell 0; have b1 := (S1.out.blk 2 rfl).cell 1; have b2 := (S1.out.blk 2 rfl).cell 2; have b3 := (S1.out.blk 2 rfl).cell 3; have bz := (S1.out.blk 2 rfl).lt; clear Z)))
      go_ret2
      exact ⟨none, 0, rfl, (S2.out.nilrow _ _).pick [0] (by decide) rfl⟩
theorem NextQ (k f t : Int) (pw : Option Addr) (nw cw : Nat) (rad most : Int) (po : Option Addr) (no co : Nat) (O : List Int) (pt : Option Addr) (nt ct : Nat) (T : List Int) (pr : Option Addr) (nr cr : Nat) (R : List Int) (pv : Option Addr) (nv cv : Nat) (V : List Int) (w : World) (x : Sq) (hO : Rd w 1 po no (encI O)) (hT : Rd w 1 pt nt (encI T)) (hR : Rd w 1 pr nr (encI R)) (hV : Rd w 1 pv nv (encI V)) (hct : nt ≤ ct) (hcv : nv ≤ cv) (hb : ∀ v, checkR O T R V = true → (outL (checkR O T R V) O T v).length ≤ 100000 ∧ (outL (checkR O T R V) R V v).length ≤ 100000) :
    Calls Tryz.prog 19 #[.agg #[.int .i64 k, .int .i64 f, .int .i64 t, .slice pw nw cw, .int .i64 rad, .int .i64 most], .agg #[.slice po no co, .slice pt nt ct, .slice pr nr cr, .slice pv nv cv], .agg #[.int .i64 x.s, .int .i64 x.r, .int .i64 x.v, .int .i64 x.d]] w fun e w' => ∃ q c, e = .returned (.tuple #[.slice q (nextL k rad (checkR O T R V) O T R V x).length c, .int .i64 (nextC (checkR O T R V) O R x)]) ∧ Sep w w' [.own 81 4 q (nextL k rad (checkR O T R V) O T R V x).length c (encQ (nextL k rad (checkR O T R V) O T R V x))] := by
  obtain ⟨s, r, v, d⟩ := x
  by_cases h1 : r = 1
  · subst h1
    exact NextIn k f t pw nw cw rad most po no co O pt nt ct T pr nr cr R pv nv cv V w s v d hO hT hR hV hct hcv (fun h => (hb v h).2)
  · by_cases h0 : r = 0
    · subst h0
      exact NextOut k f t pw nw cw rad most po no co O pt nt ct T pr nr cr R pv nv cv V w s v d hO hT hR hV hct hcv (fun h => (hb v h).1)
    · exact NextBad k f t pw nw cw rad most po no co O pt nt ct T pr nr cr R pv nv cv V w s r v d hO hT hR hV hct hcv h0 h1
end Go.Proofs.YtkekibnhmfmhmaaGreat
/- Chapter 18: what a query goes on with; in plain Lean. -/
namespace Go.Proofs.YtkekibnhmfmhmaaGreat
open Go Go.RowKit
theorem nxC_zero {b : Bool} {x : Sq} {ck : Bool} (h : nxC ck b x = 0) : ck = true ∧ b = true ∧ (x.r = 0 ∨ x.r = 1) ∧ 0 ≤ x.d ∧ x.d ≤ 200 := by
  unfold nxC at h
  split at h
  · omega
  · rename_i h1
    split at h
    · rename_i h2
      exact ⟨by simpa using h1, h2⟩
    · omega
theorem outB_iff {b : Bool} {A : List Int} {v : Int} : outB b A v = true ↔ b = true ∧ 0 ≤ v ∧ v < (A.length : Int) - 1 := by
  unfold outB
  rw [Bool.and_eq_true, Bool.and_eq_true, decide_eq_true_eq, decide_eq_true_eq]
  constructor
  · rintro ⟨⟨h1, h2⟩, h3⟩; exact ⟨h1, h2, h3⟩
  · rintro ⟨h1, h2, h3⟩; exact ⟨⟨h1, h2⟩, h3⟩
theorem nextL_mem {k rad : Int} {ck : Bool} {O T R V : List Int} {x y : Sq} (h : y ∈ nextL k rad ck O T R V x) : y = ⟨x.s, x.r, y.v, x.d + 1⟩ ∧ y.v ∈ (if x.r = 1 then outL ck R V x.v else outL ck O T x.v) := by
  unfold nextL nxL at h
  split at h
  · obtain ⟨v, hv, rfl⟩ := List.mem_map.1 h
    exact ⟨rfl, hv⟩
  · cases h
/-- each goes to a place that a way leads to -/
theorem next_has {k rad : Int} {O T R V : List Int} {x y : Sq} (hck : checkR O T R V = true) (h0 : nextC true O R x = 0) (h : y ∈ nextL k rad true O T R V x) : (x.r = 0 → hasB true O T x.v y.v = true) ∧ (x.r = 1 → hasB true O T y.v x.v = true) := by
  obtain ⟨_, hb, _⟩ := nxC_zero h0
  obtain ⟨_, hm⟩ := nextL_mem h
  obtain ⟨e1, e2, e3, e4⟩ := checkR_half hck
  constructor
  · intro hr
    rw [if_neg (by omega)] at hb hm
    unfold hasB
    rw [hb, Bool.true_and]
    exact (inB_iff _ _).2 hm
  · intro hr
    rw [if_pos hr] at hb hm
    rw [outL_yes hb] at hm
    obtain ⟨_, v0, v1⟩ := outB_iff.1 hb
    obtain ⟨a, ha⟩ : ∃ a : Nat, x.v = (a : Int) := ⟨x.v.toNat, by omega⟩
    rw [ha, Int.toNat_natCast] at hm
    rw [ha] at v1 ⊢
    have ha1 : a < R.length - 1 := by omega
    have hin := row_in e4 a ha1 _ hm
    obtain ⟨u, hu⟩ : ∃ u : Nat, y.v = (u : Int) := ⟨y.v.toNat, by omega⟩
    rw [hu] at hm hin ⊢
    have hu1 : u < R.length - 1 := by omega
    have ht := row_turn hck (v := a) (u := u) (by omega) (by omega)
    have hob : outB true O u = true := outB_iff.2 ⟨rfl, by omega, by omega⟩
    unfold hasB
    rw [hob, Bool.true_and, outL_yes hob, Int.toNat_natCast, ht]
    exact (inB_iff _ _).2 hm
theorem outL_rises {O T R V : List Int} (hck : checkR O T R V = true) (v : Int) : Rises ltI (outL true O T v) ∧ Rises ltI (outL true R V v) := by
  obtain ⟨e1, e2, e3, e4⟩ := checkR_half hck
  constructor
  · cases hb : outB true O v with
    | false => rw [outL_no hb]; exact List.Pairwise.nil
    | true =>
      rw [outL_yes hb]
      obtain ⟨_, v0, v1⟩ := outB_iff.1 hb
      exact row_rises e3 (by omega)
  · cases hb : outB true R v with
    | false => rw [outL_no hb]; exact List.Pairwise.nil
    | true =>
      rw [outL_yes hb]
      obtain ⟨_, v0, v1⟩ := outB_iff.1 hb
      exact row_rises e4 (by omega)
theorem next_rises {k rad : Int} {O T R V : List Int} {x : Sq} (hck : checkR O T R V = true) : (nextL k rad true O T R V x).Pairwise fun a b => a.v < b.v := by
  unfold nextL nxL
  split
  · refine List.Pairwise.map _ (R := fun a b => a < b) (fun a b h => h) ?_
    have h := outL_rises hck x.v
    split
    · exact h.2.imp fun {a b} h => by simpa [ltI] using h
    · exact h.1.imp fun {a b} h => by simpa [ltI] using h
  · exact List.Pairwise.nil
theorem next_empty {k rad : Int} {ck : Bool} {O T R V : List Int} {x : Sq} (h : nextC ck O R x ≠ 0) : nextL k rad ck O T R V x = [] := nxL_no (Or.inl h)
theorem next_len {k rad : Int} {ck : Bool} {O T R V : List Int} {x : Sq} (h1 : (outL ck O T x.v).length ≤ 2000) (h2 : (outL ck R V x.v).length ≤ 2000) : (nextL k rad ck O T R V x).length ≤ 2000 := by
  unfold nextL nxL
  split
  · rw [List.length_map]
    split
    · exact h2
    · exact h1
  · simp
theorem out_2000 {O T R V : List Int} (hck : checkR O T R V = true) (v : Int) : (outL true O T v).length ≤ 2000 ∧ (outL true R V v).length ≤ 2000 := by
  obtain ⟨e1, e2, e3, e4⟩ := checkR_half hck
  obtain ⟨r1, r2, r3, r4, r5, r6⟩ := offB_parts (halfB_off e3)
  exact ⟨outL_I (by omega), outL_I (by omega)⟩
end Go.Proofs.YtkekibnhmfmhmaaGreat
/- The reference's rows: in, row. -/
namespace Go.Proofs.YtkekibnhmfmhmaaGreat
open Go Go.RowKit
theorem In04x (p : Option Addr) (n c : Nat) (l : List Int) (x : Int) (w : World) (hl : Rd w 1 p n (encI l)) :
    Calls Tryz.prog 90 #[.slice p n c, .int .i64 x] w fun e w' => e = .returned (.bool (inB l x)) ∧ Ext w w' := by
  have p1 := hl.ptr
  have n1 := hl.small
  have L1 := Lib.hid hl.nI
  have HL := Lib.hid hl; clear hl
  go_enter Tryz.func90, Tryz.ntmps90
  go_wp2
  go_loop [5] (fun i => ∃ k : Nat, k ≤ n ∧ i = .int .i64 k ∧ (l.take k).any (fun y => y == x) = false) (fun i => n - (intOf i).toNat)
  case atStart => exact ⟨0, Nat.zero_le _, rfl, rfl⟩
  case round =>
    obtain ⟨k, hk, rfl, ha⟩ := hrel
    have HA := Lib.hid ha; clear ha
    by_cases hlt : k < n
    · have g1 := HL.out.cI hlt
      have d1 : (0:Int) ≤ k := by omega
      have d2 : (k:Int) < n := by omega
      have hkL : k < l.length := by rw [← L1.out]; exact hlt
      cases hq : (nth l k == x) with
      | true =>
        have HF : Hid (inB l x = true) := any_true_at (fun y : Int => y == x) l k hkL hq
        go_wp2
        go_ret
        exact ⟨ret_bool HF.out.symm, Below.refl _ _⟩
      | false =>
        have HF := Lib.hid (any_step (fun y : Int => y == x) l k hkL HA.out hq)
        go_wp2
        go_round
        case rel => exact ⟨k + 1, by omega, by go_num, HF.out⟩
        case measure => simp [intOf]; omega
    · have HF : Hid (inB l x = false) := any_end (fun y : Int => y == x) l k (by rw [← L1.out]; exact hlt) HA.out
      go_wp2
      go_ret
      exact ⟨ret_bool HF.out.symm, Below.refl _ _⟩
set_option maxRecDepth 100000 in
set_option maxHeartbeats 2000000 in
theorem row04 (po : Option Addr) (no co : Nat) (O : List Int) (pt : Option Addr) (nt ct : Nat) (T : List Int) (k : Nat) (w : World) (hO : Rd w 1 po no (encI O)) (hT : Rd w 1 pt nt (encI T)) (hct : nt ≤ ct) (hok : OffOk O T) (hk1 : k + 1 < O.length) (hlen : T.length ≤ 100000) :
    Calls Tryz.prog 89 #[.slice po no co, .slice pt nt ct, .int .i64 k] w fun e w' => ∃ q c, e = .returned (.slice q (rowL O T k).length c) ∧ Sep w w' [.own 3 1 q (rowL O T k).length c (encI (rowL O T k))] := by
  have na1 := hO.small
  have l1 := hO.nI
  have l2 := hT.nI
  have pA := hO.ptr
  have q1 := hok.lo k (by omega)
  have q2 := hok.le k hk1
  have q3 := hok.hi (k + 1) hk1
  have hrl := rowL_len hok hk1
  have RL0 := hT.rowOf hok hct hk1
  have g1 := hO.cI (k := k) (by omega)
  have g2 := hO.cI (k := k + 1) (by omega)
  obtain ⟨a, ha⟩ : ∃ a : Nat, nth O k = (a : Int) := ⟨(nth O k).toNat, by omega⟩
  obtain ⟨c, hc⟩ : ∃ c : Nat, nth O (k + 1) = (c : Int) := ⟨(nth O (k + 1)).toNat, by omega⟩
  rw [ha] at q1 q2 hrl RL0 g1
  rw [hc] at q2 q3 hrl RL0 g2
  simp only [Int.toNat_natCast] at hrl RL0
  have hq3 : (c:Int) ≤ ct := by omega
  have HLEN : Hid (c - a ≤ 1000000) := by unfold Hid; omega
  have d1 : (0:Int) ≤ k := by omega
  have d2 : (k:Int) < no := by omega
  have d3 : (0:Int) ≤ (k:Int) + 1 := by omega
  have d4 : (k:Int) + 1 < no := by omega
  have HRL := Lib.hid hrl
  have RL := Lib.hid RL0
  clear hO hT hok ha hc hrl RL0 hlen l1 l2 q3 hk1
  rw [HRL.out]
  go_enter Tryz.func89, Tryz.ntmps89
  go_wp2
  have x1 := fun x : ExtOf w => x.ext.cell g1
  have x2 := fun x : ExtOf w => x.ext.cell g2
  refine wp_region_mix [true, true, true, true, true, true, true, true, true, true, true, false] (fun _ u W => ∃ q d, u = .slice q (c - a) d ∧ W.ownsRow w.heap.size 3 1 (.slice q (c - a) d) (c - a) (encI (rowL O T k))) (by kernel_rfl) (by kernel_rfl) (by kernel_rfl) (fun _ _ _ _ hE ⟨p, d, h1, h2⟩ => ⟨p, d, h1, hE.own h2⟩) ?_
  simp only [nfM]
  repeat (go_big_quiet_step ((fail)))
  refine wpQuiet_nil ⟨⟨fun vs W hE hd => ?_, trivial⟩, fun vs W hE hkn => ?_⟩
  · simp [putM, go_sem]
    exact (OwnI01 _ (c - a) _ (rowL O T k) W (RL.out.ext hE) HLEN.out).mono fun e w' ⟨q, d, h1, S⟩ => ⟨_, h1, ⟨q, d, rfl, own_base (S.own 0 rfl) hE.size⟩, S.ext⟩
  · obtain ⟨⟨q, d, hv, hown⟩, _⟩ := hkn
    have S5 := Lib.hid ((Sep.start w).fresh hE hown (Nat.le_refl _))
    simp only [putM, hv, List.length_cons, List.length_nil, Nat.zero_add, Nat.reduceAdd, List.drop_succ_cons, List.drop_zero]
    clear x1 x2 g1 g2 hv hown hE
    go_wp2
    go_ret
    exact ⟨q, d, rfl, S5.out⟩
end Go.Proofs.YtkekibnhmfmhmaaGreat
/- The reference's half: offsets and numbers that are right by themselves. -/
namespace Go.Proofs.YtkekibnhmfmhmaaGreat
open Go Go.RowKit
theorem halfB_no1 {O T : List Int} (h : ¬ (2 ≤ O.length ∧ O.length ≤ 201 ∧ T.length ≤ 2000 ∧ nth O 0 = 0 ∧ nth O (O.length - 1) = T.length ∧ sortB O = true)) : halfB O T = false := by
  cases h1 : halfB O T with
  | false => rfl
  | true => exact absurd (offB_parts (by unfold halfB at h1; rw [Bool.and_eq_true] at h1; exact h1.1)) h
theorem halfB_no2 {O T : List Int} {v : Nat} (hv : v < O.length - 1) (h : okRow ((O.length - 1 : Nat) : Int) (rowL O T v) = false) : halfB O T = false := by
  unfold halfB
  rw [range_all_no _ _ v hv h, Bool.and_false]
set_option maxRecDepth 100000 in
set_option maxHeartbeats 8000000 in
theorem half04 (po : Option Addr) (no co : Nat) (O : List Int) (pt : Option Addr) (nt ct : Nat) (T : List Int) (w : World) (hO : Rd w 1 po no (encI O)) (hT : Rd w 1 pt nt (encI T)) : Calls Tryz.prog 88 #[.slice po no co, .slice pt nt ct] w fun e w' => e = .returned (.bool (halfB O T)) ∧ Ext w w' := by
  have pO := hO.ptr
  have pT := hT.ptr
  have n1 := hO.small
  have n2 := hT.small
  have l1 := Lib.hid hO.nI
  have l2 := Lib.hid hT.nI
  have HNO := Lib.hid (fun h => halfB_no1 (O := O) (T := T) h)
  by_cases h1 : no < 2
  · have d1 : decide ((no:Int) < 2) = true := by simp; omega
    have HF : Hid (halfB O T = false) := HNO.out (by rw [← l1.out]; omega)
    clear hO hT
    go_enter Tryz.func88, Tryz.ntmps88
    go_wp2
    go_ret
    exact ⟨ret_bool HF.out.symm, Below.refl _ _⟩
  · have d1 : decide ((no:Int) < 2) = false := by simp; omega
    by_cases h2 : 201 < no
    · have d2 : decide ((201:Int) < no) = true := by simp; omega
      have HF : Hid (halfB O T = false) := HNO.out (by rw [← l1.out]; omega)
      clear hO hT
      go_enter Tryz.func88, Tryz.ntmps88
      go_wp2
      go_ret
      exact ⟨ret_bool HF.out.symm, Below.refl _ _⟩
    · have d2 : decide ((201:Int) < no) = false := by simp; omega
      have g0 := hO.cI (k := 0) (by omega)
      have q1 : (0:Int) < no := by omega
      have g5 := hO.cI (k := no - 1) (by omega)
      have q2 : (0:Int) ≤ (no:Int) - 1 := by omega
      have q2b : (1:Int) ≤ (no:Int) := by omega
      have q3 : (no:Int) - 1 < no := by omega
      by_cases h4 : nth O 0 = 0
      · have d4 : (nth O 0 != 0) = false := by simpa using h4
        by_cases h5 : nth O (no - 1) = nt
        · have d5 : (nth O (no - 1) != (nt:Int)) = false := by simpa using h5
          by_cases h3 : 2000 < nt
          · have d3 : decide ((2000:Int) < nt) = true := by simp; omega
            have HF : Hid (halfB O T = false) := HNO.out (by rw [← l2.out]; omega)
            clear hO hT
            go_enter Tryz.func88, Tryz.ntmps88
            go_wp2
            go_ret
            exact ⟨ret_bool HF.out.symm, Below.refl _ _⟩
          · have d3 : decide ((2000:Int) < nt) = false := by simp; omega
            have HOFF : Hid (sortB O = true → offB O T = true) := fun h6 => by
              unfold offB
              rw [h6, h4]
              rw [← l1.out, ← l2.out, h5]
              simp; omega
            have HO := Lib.hid hO; clear hO
            have HT := Lib.hid hT; clear hT
            have h4' := Lib.hid h4
            have h5' := Lib.hid h5
            clear h4 h5
            go_enter Tryz.func88, Tryz.ntmps88
            go_wp2
            go_loopw [5] (fun i wr => ∃ v : Nat, 1 ≤ v ∧ v ≤ no ∧ i = .int .i64 v ∧ (∀ u, u + 1 < v → nth O u ≤ nth O (u + 1)) ∧ Ext w wr) (fun i _ => no - (intOf i).toNat)
            case atStart => exact ⟨1, Nat.le_refl _, by omega, rfl, fun u hu => by omega, Below.refl _ _⟩
            case round =>
              obtain ⟨v, hv1, hv, rfl, ha, hE⟩ := hrel
              have HA := Lib.hid ha; clear ha
              by_cases hlt : v < no
              · have c1 := hE.cell (HO.out.cI hlt)
                have c0 := hE.cell (HO.out.cI (k := v - 1) (by omega))
                have e1 : (0:Int) ≤ v := by omega
                have e2 : (v:Int) < no := by omega
                have e3 : (1:Int) ≤ (v:Int) := by omega
                have e4 : (v:Int) - 1 < no := by omega
                have e5 : (0:Int) ≤ (v:Int) - 1 := by omega
                have HE := Lib.hid hE; clear hE
                by_cases hs : nth O v < nth O (v - 1)
                · have b1 : decide (nth O v < nth O (v - 1)) = true := by simpa using hs
                  have HF : Hid (halfB O T = false) := HNO.out (fun h => by
                    have := sortB_at h.2.2.2.2.2 (v := v - 1) (by rw [← l1.out]; omega)
                    rw [show v - 1 + 1 = v by omega] at this; omega)
                  go_wp2
                  have x1 := fun x : ExtOf wr => x.ext.cell c1
                  have x0 := fun x : ExtOf wr => x.ext.cell c0
                  refine wp_region_ext (by kernel_rfl) (by kernel_rfl) ?_
                  repeat (go_big_quiet_step ((fail)))
                  refine wpQuiet_nil ?_
                  rintro w1 ⟨⟨_, hb1⟩, rfl⟩
                  go_wp2
                  go_ret
                  exact ⟨ret_bool HF.out.symm, Ext.trans HE.out hb1⟩
                · have b1 : decide (nth O v < nth O (v - 1)) = false := by simpa using hs
                  go_wp2
                  have x1 := fun x : ExtOf wr => x.ext.cell c1
                  have x0 := fun x : ExtOf wr => x.ext.cell c0
                  refine wp_region_ext (by kernel_rfl) (by kernel_rfl) ?_
                  repeat (go_big_quiet_step ((fail)))
                  refine wpQuiet_nil ?_
                  rintro w1 ⟨⟨_, hb1⟩, rfl⟩
                  go_wp2
                  go_roundw
                  case rel => exact ⟨v + 1, by omega, by omega, by go_num, fun u hu => by
                    by_cases h : u + 1 = v
                    · have : v - 1 = u := by omega
                      rw [this] at hs; rw [h]; omega
                    · exact HA.out u (by omega), Ext.trans HE.out hb1⟩
                  case measure => simp [intOf]; omega
              · have hso : sortB O = true := by
                  unfold sortB
                  rw [List.all_eq_true]
                  intro u hu
                  rw [List.mem_range] at hu
                  exact decide_eq_true (HA.out u (by have := l1.out; omega))
                have HOF := Lib.hid (HOFF.out hso)
                have HOK := Lib.hid (offOk_of HOF.out)
                clear hso HA
                have HE := Lib.hid hE; clear hE
                go_wp2
                go_loopw [6, 7] (fun i _ wr => ∃ v : Nat, 1 ≤ v ∧ v ≤ no ∧ i = .int .i64 v ∧ (∀ u, u + 1 < v → okRow ((O.length - 1 : Nat) : Int) (rowL O T u) = true) ∧ Ext w wr) (fun i _ _ => no - (intOf i).toNat)
                case atStart => exact ⟨1, Nat.le_refl _, by omega, rfl, fun u hu => by omega, HE.out⟩
                case round =>
                  clear HE hlt hv1 hv
                  obtain ⟨v, hv1, hv, rfl, ha, hE⟩ := hrel
                  have HA := Lib.hid ha; clear ha
                  by_cases hlt : v < no
                  · have hvL : v - 1 + 1 < O.length := by have := l1.out; omega
                    have q1' := HOK.out.lo (v - 1) (by omega)
                    have q2' := HOK.out.le (v - 1) hvL
                    have q3' := HOK.out.hi (v - 1 + 1) hvL
                    rw [show v - 1 + 1 = v by omega] at q2' q3'
                    have hrl := rowL_len HOK.out hvL
                    rw [show v - 1 + 1 = v by omega] at hrl
                    have c1 := hE.cell (HO.out.cI hlt)
                    have c0 := hE.cell (HO.out.cI (k := v - 1) (by omega))
                    have hnth := Lib.hid (fun j (hj : j < (rowL O T (v - 1)).length) => rowL_nth (O := O) (T := T) (v := v - 1) hj)
                    obtain ⟨a, hA⟩ : ∃ a : Nat, nth O (v - 1) = (a : Int) := ⟨(nth O (v - 1)).toNat, by omega⟩
                    obtain ⟨b, hB⟩ : ∃ b : Nat, nth O v = (b : Int) := ⟨(nth O v).toNat, by omega⟩
                    rw [hA] at c0 q1' q2' hrl hnth
                    rw [hB] at c1 q2' q3' hrl
                    simp only [Int.toNat_natCast] at hrl hnth
                    have hbn : b ≤ nt := by have := l2.out; omega
                    have hab : a ≤ b := by omega
                    have e1 : (0:Int) ≤ v := by omega
                    have e2 : (v:Int) < no := by omega
                    have e3 : (1:Int) ≤ (v:Int) := by omega
                    have e4 : (v:Int) - 1 < no := by omega
                    have e5 : (0:Int) ≤ (v:Int) - 1 := by omega
                    have hn' : ((O.length - 1 : Nat) : Int) = (no:Int) - 1 := by have := l1.out; omega
                    have HNO2 := Lib.hid (fun h => halfB_no2 (O := O) (T := T) (v := v - 1) (by omega) h)
                    have HPRE := Lib.hid (fun (h : okRow ((O.length - 1 : Nat) : Int) (rowL O T (v - 1)) = true) => (fun u (hu : u + 1 < v + 1) => by
                      by_cases h2 : u = v - 1
                      · rw [h2]; exact h
                      · exact HA.out u (by omega) : ∀ u, u + 1 < v + 1 → okRow ((O.length - 1 : Nat) : Int) (rowL O T u) = true))
                    rw [hn'] at HNO2 HPRE ⊢
                    have c1w := Lib.hid (HO.out.cI hlt)
                    have c0w := Lib.hid (HO.out.cI (k := v - 1) (by omega))
                    rw [hB] at c1w
                    rw [hA] at c0w
                    generalize rowL O T (v - 1) = l at *
                    have HRL := Lib.hid hrl
                    have HE := Lib.hid hE; clear hE
                    clear hA hB hrl q1' q2' q3' hn' hvL
                    go_wp2
                    go_loopw [7] (fun i wr => ∃ m j : Nat, m = a + j ∧ j ≤ b - a ∧ i = .int .i64 m ∧ (List.range j).all (okAt ((no:Int) - 1) l) = true ∧ Ext w wr) (fun i _ => b - (intOf i).toNat)
                    case atStart => exact ⟨a, 0, rfl, Nat.zero_le _, rfl, rfl, HE.out⟩
                    case round =>
                      clear HE c1 c0
                      obtain ⟨m, j, hm, hj, rfl, ha, hE⟩ := hrel
                      have c1 := hE.cell c1w.out
                      have c0 := hE.cell c0w.out
                      have HA' := Lib.hid ha; clear ha
                      have hm1 : a + j ≤ m := by omega
                      have hm2 : m ≤ a + j := by omega
                      by_cases hlj : j < b - a
                      · have hjl : j < l.length := by rw [HRL.out]; exact hlj
                        have t1 := hE.cell (HT.out.cI (k := m) (by omega))
                        have hx := hnth.out j hjl
                        rw [← hm] at hx
                        rw [← hx] at t1
                        clear hm
                        have f1 : (0:Int) ≤ m := by omega
                        have f2 : (m:Int) < b := by omega
                        have f3 : (m:Int) < nt := by omega
                        by_cases g1 : nth l j < 0
                        · have b1 : decide (nth l j < 0) = true := by simpa using g1
                          have HF : Hid (halfB O T = false) := HNO2.out (range_all_no _ _ j hjl (by unfold okAt; simp; omega))
                          clear hx
                          have HE := Lib.hid hE; clear hE
                          go_wp2
                          have x0 := fun x : ExtOf wr => x.ext.cell c0
                          have x1 := fun x : ExtOf wr => x.ext.cell t1
                          refine wp_region_ext (by kernel_rfl) (by kernel_rfl) ?_
                          repeat (go_big_quiet_step ((fail)))
                          refine wpQuiet_nil ?_
                          rintro w1 ⟨⟨_, hb1⟩, rfl⟩
                          go_wp2
                          go_ret
                          exact ⟨ret_bool HF.out.symm, Ext.trans HE.out hb1⟩
                        · have b1 : decide (nth l j < 0) = false := by simpa using g1
                          by_cases g2 : (no:Int) - 1 ≤ nth l j
                          · have b2 : decide ((no:Int) - 1 ≤ nth l j) = true := by simpa using g2
                            have HF : Hid (halfB O T = false) := HNO2.out (range_all_no _ _ j hjl (by unfold okAt; simp; omega))
                            clear hx
                            have HE := Lib.hid hE; clear hE
                            go_wp2
                            have x0 := fun x : ExtOf wr => x.ext.cell c0
                            have x1 := fun x : ExtOf wr => x.ext.cell t1
                            refine wp_region_ext (by kernel_rfl) (by kernel_rfl) ?_
                            repeat (go_big_quiet_step ((fail)))
                            refine wpQuiet_nil ?_
                            rintro w1 ⟨⟨_, hb1⟩, rfl⟩
                            go_wp2
                            go_ret
                            exact ⟨ret_bool HF.out.symm, Ext.trans HE.out hb1⟩
                          · have b2 : decide ((no:Int) - 1 ≤ nth l j) = false := by simpa using g2
                            by_cases hj0 : j = 0
                            · have b3 : decide ((a:Int) < (m:Int)) = false := by simp; omega
                              have b3n : decide (a < m) = false := by simp; omega
                              have HK : Hid (okAt ((no:Int) - 1) l j = true) := by unfold Hid okAt; simp; omega
                              clear hx hj0
                              have HE := Lib.hid hE; clear hE
                              go_wp2
                              have x0 := fun x : ExtOf wr => x.ext.cell c0
                              have x1 := fun x : ExtOf wr => x.ext.cell t1
                              refine wp_region_ext (by kernel_rfl) (by kernel_rfl) ?_
                              repeat (go_big_quiet_step ((fail)))
                              refine wpQuiet_nil ?_
                              rintro w1 ⟨⟨_, hb1⟩, rfl⟩
                              go_wp2
                              go_roundw
                              case rel => exact ⟨m + 1, j + 1, by omega, by omega, by go_num, range_all_succ _ _ HA'.out HK.out, Ext.trans HE.out hb1⟩
                              case measure => simp [intOf]; omega
                            · have b3 : decide ((a:Int) < (m:Int)) = true := by simp; omega
                              have b3n : decide (a < m) = true := by simp; omega
                              have t0 := hE.cell (HT.out.cI (k := m - 1) (by omega))
                              have hy := hnth.out (j - 1) (by omega)
                              rw [show a + (j - 1) = m - 1 by omega] at hy
                              rw [← hy] at t0
                              have f4 : (1:Int) ≤ (m:Int) := by omega
                              have f5 : (m:Int) - 1 < nt := by omega
                              have f6 : (0:Int) ≤ (m:Int) - 1 := by omega
                              by_cases g3 : nth l j ≤ nth l (j - 1)
                              · have b4 : decide (nth l j ≤ nth l (j - 1)) = true := by simpa using g3
                                have HF : Hid (halfB O T = false) := HNO2.out (range_all_no _ _ j hjl (by unfold okAt; simp; omega))
                                clear hx hy
                                have HE := Lib.hid hE; clear hE
                                go_wp2
                                have x0 := fun x : ExtOf wr => x.ext.cell c0
                                have x1 := fun x : ExtOf wr => x.ext.cell t1
                                have x2 := fun x : ExtOf wr => x.ext.cell t0
                                refine wp_region_ext (by kernel_rfl) (by kernel_rfl) ?_
                                repeat (go_big_quiet_step ((fail)))
                                refine wpQuiet_nil ?_
                                rintro w1 ⟨⟨_, hb1⟩, rfl⟩
                                go_wp2
                                go_ret
                                exact ⟨ret_bool HF.out.symm, Ext.trans HE.out hb1⟩
                              · have b4 : decide (nth l j ≤ nth l (j - 1)) = false := by simpa using g3
                                have HK : Hid (okAt ((no:Int) - 1) l j = true) := by unfold Hid okAt; simp; omega
                                clear hx hy
                                have HE := Lib.hid hE; clear hE
                                go_wp2
                                have x0 := fun x : ExtOf wr => x.ext.cell c0
                                have x1 := fun x : ExtOf wr => x.ext.cell t1
                                have x2 := fun x : ExtOf wr => x.ext.cell t0
                                refine wp_region_ext (by kernel_rfl) (by kernel_rfl) ?_
                                repeat (go_big_quiet_step ((fail)))
                                refine wpQuiet_nil ?_
                                rintro w1 ⟨⟨_, hb1⟩, rfl⟩
                                go_wp2
                                go_roundw
                                case rel => exact ⟨m + 1, j + 1, by omega, by omega, by go_num, range_all_succ _ _ HA'.out HK.out, Ext.trans HE.out hb1⟩
                                case measure => simp [intOf]; omega
                      · clear hm
                        have HOKR : Hid (okRow ((no:Int) - 1) l = true) := by unfold Hid okRow; rw [HRL.out, show b - a = j by omega]; exact HA'.out
                        have f2 : decide ((m:Int) < b) = false := by simp; omega
                        have f2n : decide (m < b) = false := by simp; omega
                        have HE := Lib.hid hE; clear hE
                        go_wp2
                        go_roundw
                        case rel => exact ⟨v + 1, by omega, by omega, by go_num, HPRE.out HOKR.out, HE.out⟩
                        case measure => simp [intOf]; omega
                  · have HF : Hid (halfB O T = true) := by
                      unfold Hid halfB
                      rw [HOF.out, Bool.true_and, List.all_eq_true]
                      intro u hu
                      rw [List.mem_range] at hu
                      exact HA.out u (by have := l1.out; omega)
                    have HE := Lib.hid hE; clear hE
                    go_wp2
                    go_ret
                    exact ⟨ret_bool HF.out.symm, HE.out⟩
        · have d5 : (nth O (no - 1) != (nt:Int)) = true := by simpa using h5
          have HF : Hid (halfB O T = false) := HNO.out (by rw [← l1.out, ← l2.out]; exact fun h => h5 h.2.2.2.2.1)
          clear h4 h5
          clear hO hT
          go_enter Tryz.func88, Tryz.ntmps88
          go_wp2
          go_ret
          exact ⟨ret_bool HF.out.symm, Below.refl _ _⟩
      · have d4 : (nth O 0 != 0) = true := by simpa using h4
        have HF : Hid (halfB O T = false) := HNO.out (fun h => h4 h.2.2.2.1)
        clear h4
        clear hO hT
        go_enter Tryz.func88, Tryz.ntmps88
        go_wp2
        go_ret
        exact ⟨ret_bool HF.out.symm, Below.refl _ _⟩
end Go.Proofs.YtkekibnhmfmhmaaGreat
/- The reference's Check of rows. -/
namespace Go.Proofs.YtkekibnhmfmhmaaGreat
open Go Go.RowKit
set_option maxRecDepth 100000 in
set_option maxHeartbeats 4000000 in
theorem Check04_no (po : Option Addr) (no co : Nat) (O : List Int) (pt : Option Addr) (nt ct : Nat) (T : List Int) (pr : Option Addr) (nr cr : Nat) (R : List Int) (pv : Option Addr) (nv cv : Nat) (V : List Int) (w : World) (hO : Rd w 1 po no (encI O)) (hT : Rd w 1 pt nt (encI T)) (hR : Rd w 1 pr nr (encI R)) (hV : Rd w 1 pv nv (encI V)) (hct : nt ≤ ct) (hcv : nv ≤ cv) (h : no ≠ nr ∨ nt ≠ nv ∨ halfB O T = false ∨ halfB R V = false) :
    Calls Tryz.prog 57 #[.agg #[.slice po no co, .slice pt nt ct, .slice pr nr cr, .slice pv nv cv]] w fun e w' => e = .returned (.bool false) ∧ Ext w w' := by
  have _u := And.intro hct hcv
  have S0 := Lib.hid ((Sep.start w).al #[.slice po no co, .slice pt nt ct, .slice pr nr cr, .slice pv nv cv] 41 w.heap.size rfl)
  have HH1 := Lib.hid (fun W1 (h : Ext w W1) => half04 po no co O pt nt ct T W1 (hO.ext h) (hT.ext h))
  have HH2 := Lib.hid (fun W1 (h : Ext w W1) => half04 pr nr cr R pv nv cv V W1 (hR.ext h) (hV.ext h))
  clear hO hT hR hV
  by_cases h1 : no = nr
  · have d1 : ((no:Int) != (nr:Int)) = false := by simp; omega
    cases h3 : halfB O T with
    | false =>
      rw [h3] at HH1
      clear h h1 h3
      go_enter Tryz.func57, Tryz.ntmps57
      go_wp2_with (go_at_call 88; go_must (refine (HH1.out _ S0.out.ext).mono ?_; rintro e w1 ⟨rfl, hb⟩; have S1 := Lib.hid (S0.out.call hb); have az := (S1.out.blk 0 rfl).lt; have a0 := (S1.out.blk 0 rfl).cell 0; have a1 := (S1.out.blk 0 rfl).cell 1; have a2 := (S1.out.blk 0 rfl).cell 2; have a3 := (S1.out.blk 0 rfl).cell 3; clear hb))
      go_ret
      exact ⟨rfl, S1.out.ext⟩
    | true =>
      rw [h3] at HH1
      cases h4 : halfB R V with
      | false =>
        rw [h4] at HH2
        clear h h1 h3 h4
        go_enter Tryz.func57, Tryz.ntmps57
        go_wp2_with (first | (go_at_call 88; have _t := S1; go_must (refine (HH2.out _ S1.out.ext).mono ?_; rintro e w2 ⟨rfl, hb⟩; have S2 := Lib.hid (S1.out.call hb); have bz := (S2.out.blk 0 rfl).lt; have b0 := (S2.out.blk 0 rfl).cell 0; have b1 := (S2.out.blk 0 rfl).cell 1; have b2 := (S2.out.blk 0 rfl).cell 2; have b3 := (S2.out.blk 0 rfl).cell 3; clear hb)) | (go_at_call 88; go_must (refine (HH1.out _ S0.out.ext).mono ?_; rintro e w1 ⟨rfl, hb⟩; have S1 := Lib.hid (S0.out.call hb); have az := (S1.out.blk 0 rfl).lt; have a0 := (S1.out.blk 0 rfl).cell 0; have a1 := (S1.out.blk 0 rfl).cell 1; have a2 := (S1.out.blk 0 rfl).cell 2; have a3 := (S1.out.blk 0 rfl).cell 3; clear hb)))
        go_ret
        exact ⟨rfl, S2.out.ext⟩
      | true =>
        rw [h4] at HH2
        have d2 : ((nt:Int) != (nv:Int)) = true := by
          rcases h with h | h | h | h
          · exact absurd h1 h
          · simp; omega
          · rw [h3] at h; cases h
          · rw [h4] at h; cases h
        clear h h1 h3 h4
        go_enter Tryz.func57, Tryz.ntmps57
        go_wp2_with (first | (go_at_call 88; have _t := S1; go_must (refine (HH2.out _ S1.out.ext).mono ?_; rintro e w2 ⟨rfl, hb⟩; have S2 := Lib.hid (S1.out.call hb); have bz := (S2.out.blk 0 rfl).lt; have b0 := (S2.out.blk 0 rfl).cell 0; have b1 := (S2.out.blk 0 rfl).cell 1; have b2 := (S2.out.blk 0 rfl).cell 2; have b3 := (S2.out.blk 0 rfl).cell 3; clear hb)) | (go_at_call 88; go_must (refine (HH1.out _ S0.out.ext).mono ?_; rintro e w1 ⟨rfl, hb⟩; have S1 := Lib.hid (S0.out.call hb); have az := (S1.out.blk 0 rfl).lt; have a0 := (S1.out.blk 0 rfl).cell 0; have a1 := (S1.out.blk 0 rfl).cell 1; have a2 := (S1.out.blk 0 rfl).cell 2; have a3 := (S1.out.blk 0 rfl).cell 3; clear hb)))
        go_ret
        exact ⟨rfl, S2.out.ext⟩
  · have d1 : ((no:Int) != (nr:Int)) = true := by simp; omega
    clear h h1
    go_enter Tryz.func57, Tryz.ntmps57
    go_wp2
    go_ret
    exact ⟨rfl, S0.out.ext⟩
def ChkQ (m : List Int) (k : Int) (i : Nat) (v : Value) (W : World) : Prop :=
  match i with
  | 8 => ∃ q c, v = .slice q m.length c ∧ Rd W 1 q m.length (encI m)
  | 10 => v = .bool (inB m k)
  | _ => True
theorem ChkQ_mono {m : List Int} {k : Int} : ∀ i v W W', Ext W W' → ChkQ m k i v W → ChkQ m k i v W' := by
  intro i v W W' he h
  unfold ChkQ at *
  split at h
  · obtain ⟨q, c, h1, h2⟩ := h; exact ⟨q, c, h1, h2.ext he⟩
  · exact h
  · trivial
theorem rowX_take_all {O T R V : List Int} {k j : Nat} (hj : j < (rowL O T k).length) : ((rowX O T k).take (j + 1)).all (backB R V) = (((rowX O T k).take j).all (backB R V) && inB (rowL R V (nth (rowL O T k) j).toNat) k) := by
  rw [rowX_take hj, List.all_append]; simp [backB]
set_option maxRecDepth 100000 in
set_option maxHeartbeats 8000000 in
theorem Check04_yes (po : Option Addr) (no co : Nat) (O : List Int) (pt : Option Addr) (nt ct : Nat) (T : List Int) (pr : Option Addr) (nr cr : Nat) (R : List Int) (pv : Option Addr) (nv cv : Nat) (V : List Int) (w : World) (hO : Rd w 1 po no (encI O)) (hT : Rd w 1 pt nt (encI T)) (hR : Rd w 1 pr nr (encI R)) (hV : Rd w 1 pv nv (encI V)) (hct : nt ≤ ct) (hcv : nv ≤ cv) (e1 : no = nr) (e2 : nt = nv) (h1 : halfB O T = true) (h2 : halfB R V = true) :
    Calls Tryz.prog 57 #[.agg #[.slice po no co, .slice pt nt ct, .slice pr nr cr, .slice pv nv cv]] w fun e w' => e = .returned (.bool ((pairs O T).all (backB R V))) ∧ Ext w w' := by
  have l1 := hO.nI
  have l2 := hT.nI
  have l3 := hR.nI
  have l4 := hV.nI
  have n1 := hO.small
  have S0 := Lib.hid ((Sep.start w).al #[.slice po no co, .slice pt nt ct, .slice pr nr cr, .slice pv nv cv] 41 w.heap.size rfl)
  have HH1 := Lib.hid (fun W1 (h : Ext w W1) => half04 po no co O pt nt ct T W1 (hO.ext h) (hT.ext h))
  have HH2 := Lib.hid (fun W1 (h : Ext w W1) => half04 pr nr cr R pv nv cv V W1 (hR.ext h) (hV.ext h))
  rw [h1] at HH1
  rw [h2] at HH2
  have d1 : ((no:Int) != (nr:Int)) = false := by simp; omega
  have d2 : ((nt:Int) != (nv:Int)) = false := by simp; omega
  have r := offB_parts (halfB_off h1)
  have r' := offB_parts (halfB_off h2)
  have HR1 := Lib.hid (fun W1 (h : Ext w W1) k (hk : k + 1 < O.length) => row04 po no co O pt nt ct T k W1 (hO.ext h) (hT.ext h) hct (offOk_of (halfB_off h1)) hk (by omega))
  have HR2 := Lib.hid (fun W1 (h : Ext w W1) k (hk : k + 1 < R.length) => row04 pr nr cr R pv nv cv V k W1 (hR.ext h) (hV.ext h) hcv (offOk_of (halfB_off h2)) hk (by omega))
  have HPB := Lib.hid (fun x (hx : x ∈ pairs O T) => pair_bd h1 hx)
  have L1 := Lib.hid l1
  have L3 := Lib.hid l3
  have E1 := Lib.hid e1
  have rl2000 : ∀ k, (rowL O T k).length ≤ 2000 := fun k => by unfold rowL; rw [List.length_take, List.length_drop]; omega
  have ru2000 : ∀ k, (rowL R V k).length ≤ 2000 := fun k => by unfold rowL; rw [List.length_take, List.length_drop]; omega
  have RL := Lib.hid rl2000
  have RU := Lib.hid ru2000
  have no200 : no ≤ 201 := by omega
  clear hO hT hR hV h1 h2 l1 l2 l3 l4 e1 e2 r r' rl2000 ru2000
  go_enter Tryz.func57, Tryz.ntmps57
  go_wp2_with (first | (go_at_call 88; have _t := S1; go_must (refine (HH2.out _ S1.out.ext).mono ?_; rintro e w2 ⟨rfl, hb⟩; have S2 := Lib.hid (S1.out.call hb); have bz := (S2.out.blk 0 rfl).lt; have b0 := (S2.out.blk 0 rfl).cell 0; have b1 := (S2.out.blk 0 rfl).cell 1; have b2 := (S2.out.blk 0 rfl).cell 2; have b3 := (S2.out.blk 0 rfl).cell 3; clear hb)) | (go_at_call 88; go_must (refine (HH1.out _ S0.out.ext).mono ?_; rintro e w1 ⟨rfl, hb⟩; have S1 := Lib.hid (S0.out.call hb); have az := (S1.out.blk 0 rfl).lt; have a0 := (S1.out.blk 0 rfl).cell 0; have a1 := (S1.out.blk 0 rfl).cell 1; have a2 := (S1.out.blk 0 rfl).cell 2; have a3 := (S1.out.blk 0 rfl).cell 3; clear hb)))
  go_loopw [3, 4, 5] (fun v _ _ wr => ∃ k : Nat, k ≤ no - 1 ∧ v = .int .i64 k ∧ (pairsK O T k).all (backB R V) = true ∧ Sep w wr [.blk w.heap.size 41 #[.slice po no co, .slice pt nt ct, .slice pr nr cr, .slice pv nv cv]]) (fun v _ _ _ => no - 1 - (intOf v).toNat)
  case atStart => exact ⟨0, Nat.zero_le _, rfl, rfl, S2.out⟩
  case round =>
    clear S0 S1 S2
    obtain ⟨k, hk, rfl, ha, S⟩ := hrel
    have HA := Lib.hid ha; clear ha
    have az := (S.blk 0 rfl).lt; have a0 := (S.blk 0 rfl).cell 0; have a1 := (S.blk 0 rfl).cell 1; have a2 := (S.blk 0 rfl).cell 2; have a3 := (S.blk 0 rfl).cell 3
    by_cases hlt : k < no - 1
    · have hkO : k + 1 < O.length := by have := L1.out; omega
      have t1 : (k:Int) + 1 < no := by omega
      have t0 : (0:Int) ≤ k := by omega
      have HRk := Lib.hid (fun W1 (h : Ext w W1) => HR1.out W1 h k hkO)
      have rlk := RL.out k
      have hpair := Lib.hid (fun j (hj : j < (rowL O T k).length) => pairs_at (O := O) (T := T) (k := k) (by omega) hj)
      have hstep := Lib.hid (fun j (hj : j < (rowL O T k).length) => rowX_take_all (R := R) (V := V) hj)
      have hpre := Lib.hid (fun j => pairs_prefix (O := O) (T := T) (k := k) (j := j) (by omega))
      have hend : Hid ((rowX O T k).take (rowL O T k).length = rowX O T k) := by unfold Hid rowX; rw [List.take_of_length_le (by simp)]
      have hps := Lib.hid (pairsK_step O T k)
      generalize rowL O T k = l at *
      generalize rowX O T k = xs at *
      have SH := Lib.hid S; clear S
      go_wp2_with (go_at_call 89; go_must (refine (HRk.out _ SH.out.ext).mono ?_; rintro e w3 ⟨q, c, rfl, Z⟩; have P1 := Lib.hid (SH.out.comp Z); clear Z))
      go_loopw [5] (fun i wr => ∃ j : Nat, j ≤ l.length ∧ i = .int .i64 j ∧ (xs.take j).all (backB R V) = true ∧ Sep w wr [.own 3 1 q l.length c (encI l), .blk w.heap.size 41 #[.slice po no co, .slice pt nt ct, .slice pr nr cr, .slice pv nv cv]]) (fun i _ => l.length - (intOf i).toNat)
      case atStart => exact ⟨0, Nat.zero_le _, rfl, by simp, P1.out⟩
      case round =>
        clear SH P1 a0 a1 a2 a3 az
        obtain ⟨j, hj, rfl, hb, S⟩ := hrel
        have HB := Lib.hid hb; clear hb
        have az := (S.blk 1 rfl).lt; have a0 := (S.blk 1 rfl).cell 0; have a1 := (S.blk 1 rfl).cell 1; have a2 := (S.blk 1 rfl).cell 2; have a3 := (S.blk 1 rfl).cell 3
        have pq := (S.rd 0 rfl (by omega)).ptr
        by_cases hlj : j < l.length
        · have g1 := (S.rd 0 rfl (by omega)).cI hlj
          have hpb := HPB.out _ (hpair.out j hlj)
          simp only at hpb
          obtain ⟨u, hu⟩ : ∃ u : Nat, nth l j = (u : Int) := ⟨(nth l j).toNat, by omega⟩
          have huR : u + 1 < R.length := by have := L1.out; have := L3.out; have := E1.out; omega
          have HRu := Lib.hid (fun W1 (h : Ext w W1) => HR2.out W1 h u huR)
          have hst := hstep.out j hlj
          rw [HB.out, Bool.true_and, hu, Int.toNat_natCast] at hst
          have HST := Lib.hid hst
          have ruk := RU.out u
          rw [hu] at g1
          generalize rowL R V u = m at *
          have t2 : (0:Int) ≤ j := by omega
          have t3 : (j:Int) < l.length := by omega
          clear hst hpb hu
          have SH := Lib.hid S; clear S
          cases hin : inB m (k:Int) with
          | true =>
            rw [hin] at HST
            go_wp2
            have x2 := fun x : ExtOf wr => x.ext.cell a2
            have x3 := fun x : ExtOf wr => x.ext.cell a3
            have x1 := fun x : ExtOf wr => x.ext.cell g1
            refine wp_region_mix [true, true, true, true, true, true, true, true, false, true, false] (ChkQ m k) (by kernel_rfl) (by kernel_rfl) (by kernel_rfl) ChkQ_mono ?_
            simp only [nfM]
            repeat (go_big_quiet_step ((fail)))
            refine wpQuiet_nil ⟨⟨fun vs W1 hE hd => ?_, fun vs W1 hE hd => ?_, trivial⟩, fun vs W1 hE hkn => ?_⟩
            · simp [putM, go_sem]
              exact (HRu.out _ (Ext.trans SH.out.ext hE)).mono fun e w' ⟨q, c, h1, S⟩ => ⟨_, h1, ⟨q, c, rfl, S.rd 0 rfl (by omega)⟩, S.ext⟩
            · obtain ⟨q, c, e1, e2⟩ := hd 8 (by decide) rfl
              simp [putM, go_sem, e1]
              exact (In04x q _ c m k W1 e2).mono fun e w' ⟨h1, h2⟩ => ⟨_, h1, rfl, h2⟩
            obtain ⟨⟨q', c', k1, _⟩, k2, _⟩ := hkn
            have k2 : vs 10 = .bool (inB m k) := k2
            rw [hin] at k2
            have SY := Lib.hid (SH.out.call hE)
            simp only [putM, k1, k2, List.length_cons, List.length_nil, Nat.zero_add, Nat.reduceAdd, List.drop_succ_cons, List.drop_zero]
            clear x1 x2 x3 k1 k2 hE
            go_wp2
            go_roundw
            case rel => exact ⟨j + 1, by omega, by go_num, HST.out, SY.out⟩
            case measure => simp [intOf]; omega
          | false =>
            rw [hin] at HST
            have HF : Hid ((pairs O T).all (backB R V) = false) := by
              obtain ⟨t, ht⟩ := hpre.out (j + 1)
              unfold Hid
              rw [← ht, List.all_append, List.all_append, HST.out]; simp
            go_wp2
            have x2 := fun x : ExtOf wr => x.ext.cell a2
            have x3 := fun x : ExtOf wr => x.ext.cell a3
            have x1 := fun x : ExtOf wr => x.ext.cell g1
            refine wp_region_mix [true, true, true, true, true, true, true, true, false, true, false] (ChkQ m k) (by kernel_rfl) (by kernel_rfl) (by kernel_rfl) ChkQ_mono ?_
            simp only [nfM]
            repeat (go_big_quiet_step ((fail)))
            refine wpQuiet_nil ⟨⟨fun vs W1 hE hd => ?_, fun vs W1 hE hd => ?_, trivial⟩, fun vs W1 hE hkn => ?_⟩
            · simp [putM, go_sem]
              exact (HRu.out _ (Ext.trans SH.out.ext hE)).mono fun e w' ⟨q, c, h1, S⟩ => ⟨_, h1, ⟨q, c, rfl, S.rd 0 rfl (by omega)⟩, S.ext⟩
            · obtain ⟨q, c, e1, e2⟩ := hd 8 (by decide) rfl
              simp [putM, go_sem, e1]
              exact (In04x q _ c m k W1 e2).mono fun e w' ⟨h1, h2⟩ => ⟨_, h1, rfl, h2⟩
            obtain ⟨⟨q', c', k1, _⟩, k2, _⟩ := hkn
            have k2 : vs 10 = .bool (inB m k) := k2
            rw [hin] at k2
            have SY := Lib.hid (SH.out.call hE)
            simp only [putM, k1, k2, List.length_cons, List.length_nil, Nat.zero_add, Nat.reduceAdd, List.drop_succ_cons, List.drop_zero]
            clear x1 x2 x3 k1 k2 hE
            go_wp2
            go_ret
            exact ⟨ret_bool HF.out.symm, SY.out.ext⟩
        · obtain rfl : j = l.length := by omega
          have hb := HB.out
          rw [hend.out] at hb
          have HK : Hid ((pairsK O T (k + 1)).all (backB R V) = true) := by unfold Hid; rw [hps.out, List.all_append, HA.out, hb]; rfl
          clear hb
          have SH := Lib.hid S; clear S
          go_wp2
          go_roundw
          case rel => exact ⟨k + 1, by omega, by go_num, HK.out, SH.out.pick [1] (by decide) rfl⟩
          case measure => simp [intOf]; omega
    · have HF : Hid ((pairs O T).all (backB R V) = true) := by
        unfold Hid pairs
        rw [show O.length - 1 = k by have := L1.out; omega]; exact HA.out
      have t1 : decide ((k:Int) + 1 < no) = false := by simp; omega
      have SH := Lib.hid S; clear S
      go_wp2
      go_ret
      exact ⟨ret_bool HF.out.symm, SH.out.ext⟩
theorem Check04 (po : Option Addr) (no co : Nat) (O : List Int) (pt : Option Addr) (nt ct : Nat) (T : List Int) (pr : Option Addr) (nr cr : Nat) (R : List Int) (pv : Option Addr) (nv cv : Nat) (V : List Int) (w : World) (hO : Rd w 1 po no (encI O)) (hT : Rd w 1 pt nt (encI T)) (hR : Rd w 1 pr nr (encI R)) (hV : Rd w 1 pv nv (encI V)) (hct : nt ≤ ct) (hcv : nv ≤ cv) : Calls Tryz.prog 57 #[.agg #[.slice po no co, .slice pt nt ct, .slice pr nr cr, .slice pv nv cv]] w fun e w' => e = .returned (.bool (checkR O T R V)) ∧ Ext w w' := by
  have l1 := hO.nI
  have l2 := hT.nI
  have l3 := hR.nI
  have l4 := hV.nI
  by_cases h : no ≠ nr ∨ nt ≠ nv ∨ halfB O T = false ∨ halfB R V = false
  · rw [checkR_no (by rw [← l1, ← l2, ← l3, ← l4]; exact h)]
    exact Check04_no po no co O pt nt ct T pr nr cr R pv nv cv V w hO hT hR hV hct hcv h
  · have h1 : no = nr := by
      by_cases h1 : no = nr
      · exact h1
      · exact absurd (.inl h1) h
    have h2 : nt = nv := by
      by_cases h2 : nt = nv
      · exact h2
      · exact absurd (.inr (.inl h2)) h
    have h3 : halfB O T = true := by
      cases h3 : halfB O T with
      | true => rfl
      | false => exact absurd (.inr (.inr (.inl h3))) h
    have h4 : halfB R V = true := by
      cases h4 : halfB R V with
      | true => rfl
      | false => exact absurd (.inr (.inr (.inr h4))) h
    have : checkR O T R V = (pairs O T).all (backB R V) := by
      unfold checkR
      rw [h3, h4, ← l1, ← l2, ← l3, ← l4, h1, h2]
      simp only [decide_true, Bool.true_and]
      rfl
    rw [this]
    exact Check04_yes po no co O pt nt ct T pr nr cr R pv nv cv V w hO hT hR hV hct hcv h1 h2 h3 h4
end Go.Proofs.YtkekibnhmfmhmaaGreat
/- The reference's Out, In, Has, Own of rows. -/
namespace Go.Proofs.YtkekibnhmfmhmaaGreat
open Go Go.RowKit
set_option maxRecDepth 100000 in
set_option maxHeartbeats 4000000 in
theorem Out04 (po : Option Addr) (no co : Nat) (O : List Int) (pt : Option Addr) (nt ct : Nat) (T : List Int) (pr : Option Addr) (nr cr : Nat) (R : List Int) (pv : Option Addr) (nv cv : Nat) (V : List Int) (w : World) (v : Int) (hO : Rd w 1 po no (encI O)) (hT : Rd w 1 pt nt (encI T)) (hR : Rd w 1 pr nr (encI R)) (hV : Rd w 1 pv nv (encI V)) (hct : nt ≤ ct) (hcv : nv ≤ cv) : Calls Tryz.prog 58 #[.agg #[.slice po no co, .slice pt nt ct, .slice pr nr cr, .slice pv nv cv], .int .i64 v] w fun e w' => ∃ q c, e = .returned (.tuple #[.slice q (outL (checkR O T R V) O T v).length c, .bool (outB (checkR O T R V) O v)]) ∧ Sep w w' [.own 3 1 q (outL (checkR O T R V) O T v).length c (encI (outL (checkR O T R V) O T v))] := by
  have S0 := Lib.hid ((Sep.start w).al #[.slice po no co, .slice pt nt ct, .slice pr nr cr, .slice pv nv cv] 41 w.heap.size rfl)
  have HC := Lib.hid (fun W1 (h : Ext w W1) => Check04 po no co O pt nt ct T pr nr cr R pv nv cv V W1 (hO.ext h) (hT.ext h) (hR.ext h) (hV.ext h) hct hcv)
  have n1 := hO.small
  cases hck : checkR O T R V with
  | false =>
    rw [hck] at HC
    have hno : outB false O v = false := rfl
    rw [outL_no hno, hno]
    clear hO hT hR hV hck hno
    go_enter Tryz.func58, Tryz.ntmps58
    go_wp2_with (go_at_call 57; go_must (refine (HC.out _ S0.out.ext).mono ?_; rintro e w1 ⟨rfl, hb⟩; have S1 := Lib.hid (S0.out.call hb); have az := (S1.out.blk 0 rfl).lt; have a0 := (S1.out.blk 0 rfl).cell 0; have a1 := (S1.out.blk 0 rfl).cell 1; have a2 := (S1.out.blk 0 rfl).cell 2; have a3 := (S1.out.blk 0 rfl).cell 3; clear hb))
    go_ret2
    exact ⟨none, 0, rfl, ((Sep.start w).call S1.out.ext).nilrow _ _⟩
  | true =>
    rw [hck] at HC
    obtain ⟨e1, e2, e3, e4⟩ := checkR_half hck
    have r := offB_parts (halfB_off e3)
    have hof := offOk_of (halfB_off e3)
    have l1 := hO.nI
    have l2 := hT.nI
    by_cases h1 : v < 0
    · have b1 : decide (v < 0) = true := by simpa using h1
      have hno : outB true O v = false := by unfold outB; simp; omega
      rw [outL_no hno, hno]
      clear hO hT hR hV hck hno e1 e2 e3 e4 r hof l1 l2
      go_enter Tryz.func58, Tryz.ntmps58
      go_wp2_with (go_at_call 57; go_must (refine (HC.out _ S0.out.ext).mono ?_; rintro e w1 ⟨rfl, hb⟩; have S1 := Lib.hid (S0.out.call hb); have az := (S1.out.blk 0 rfl).lt; have a0 := (S1.out.blk 0 rfl).cell 0; have a1 := (S1.out.blk 0 rfl).cell 1; have a2 := (S1.out.blk 0 rfl).cell 2; have a3 := (S1.out.blk 0 rfl).cell 3; clear hb))
      go_ret2
      exact ⟨none, 0, rfl, ((Sep.start w).call S1.out.ext).nilrow _ _⟩
    · have b1 : decide (v < 0) = false := by simpa using h1
      by_cases h2 : (no:Int) - 1 ≤ v
      · have b2 : decide ((no:Int) - 1 ≤ v) = true := by simpa using h2
        have hno : outB true O v = false := by unfold outB; simp; omega
        rw [outL_no hno, hno]
        clear hO hT hR hV hck hno e1 e2 e3 e4 r hof l1 l2
        go_enter Tryz.func58, Tryz.ntmps58
        go_wp2_with (go_at_call 57; go_must (refine (HC.out _ S0.out.ext).mono ?_; rintro e w1 ⟨rfl, hb⟩; have S1 := Lib.hid (S0.out.call hb); have az := (S1.out.blk 0 rfl).lt; have a0 := (S1.out.blk 0 rfl).cell 0; have a1 := (S1.out.blk 0 rfl).cell 1; have a2 := (S1.out.blk 0 rfl).cell 2; have a3 := (S1.out.blk 0 rfl).cell 3; clear hb))
        go_ret2
        exact ⟨none, 0, rfl, ((Sep.start w).call S1.out.ext).nilrow _ _⟩
      · have b2 : decide ((no:Int) - 1 ≤ v) = false := by simpa using h2
        have hyes : outB true O v = true := by unfold outB; simp; omega
        rw [outL_yes hyes, hyes]
        obtain ⟨k, rfl⟩ : ∃ k : Nat, v = (k : Int) := ⟨v.toNat, by omega⟩
        rw [Int.toNat_natCast]
        have HR := Lib.hid (fun W1 (h : Ext w W1) => row04 po no co O pt nt ct T k W1 (hO.ext h) (hT.ext h) hct hof (by omega) (by omega))
        clear hO hT hR hV hck hyes e1 e2 e3 e4 r hof l1 l2
        go_enter Tryz.func58, Tryz.ntmps58
        go_wp2_with (first | (go_at_call 89; go_must (refine (HR.out _ S1.out.ext).mono ?_; rintro e w2 ⟨q, c, rfl, Z⟩; have S2 := Lib.hid (S1.out.comp Z); clear Z)) | (go_at_call 57; go_must (refine (HC.out _ S0.out.ext).mono ?_; rintro e w1 ⟨rfl, hb⟩; have S1 := Lib.hid (S0.out.call hb); have az := (S1.out.blk 0 rfl).lt; have a0 := (S1.out.blk 0 rfl).cell 0; have a1 := (S1.out.blk 0 rfl).cell 1; have a2 := (S1.out.blk 0 rfl).cell 2; have a3 := (S1.out.blk 0 rfl).cell 3; clear hb)))
        go_ret2
        exact ⟨q, c, rfl, S2.out.pick [0] (by decide) rfl⟩
set_option maxRecDepth 100000 in
set_option maxHeartbeats 4000000 in
theorem In04 (po : Option Addr) (no co : Nat) (O : List Int) (pt : Option Addr) (nt ct : Nat) (T : List Int) (pr : Option Addr) (nr cr : Nat) (R : List Int) (pv : Option Addr) (nv cv : Nat) (V : List Int) (w : World) (v : Int) (hO : Rd w 1 po no (encI O)) (hT : Rd w 1 pt nt (encI T)) (hR : Rd w 1 pr nr (encI R)) (hV : Rd w 1 pv nv (encI V)) (hct : nt ≤ ct) (hcv : nv ≤ cv) : Calls Tryz.prog 59 #[.agg #[.slice po no co, .slice pt nt ct, .slice pr nr cr, .slice pv nv cv], .int .i64 v] w fun e w' => ∃ q c, e = .returned (.tuple #[.slice q (outL (checkR O T R V) R V v).length c, .bool (outB (checkR O T R V) R v)]) ∧ Sep w w' [.own 3 1 q (outL (checkR O T R V) R V v).length c (encI (outL (checkR O T R V) R V v))] := by
  have S0 := Lib.hid ((Sep.start w).al #[.slice po no co, .slice pt nt ct, .slice pr nr cr, .slice pv nv cv] 41 w.heap.size rfl)
  have HC := Lib.hid (fun W1 (h : Ext w W1) => Check04 po no co O pt nt ct T pr nr cr R pv nv cv V W1 (hO.ext h) (hT.ext h) (hR.ext h) (hV.ext h) hct hcv)
  have n1 := hO.small
  cases hck : checkR O T R V with
  | false =>
    rw [hck] at HC
    have hno : outB false R v = false := rfl
    rw [outL_no hno, hno]
    clear hO hT hR hV hck hno
    go_enter Tryz.func59, Tryz.ntmps59
    go_wp2_with (go_at_call 57; go_must (refine (HC.out _ S0.out.ext).mono ?_; rintro e w1 ⟨rfl, hb⟩; have S1 := Lib.hid (S0.out.call hb); have az := (S1.out.blk 0 rfl).lt; have a0 := (S1.out.blk 0 rfl).cell 0; have a1 := (S1.out.blk 0 rfl).cell 1; have a2 := (S1.out.blk 0 rfl).cell 2; have a3 := (S1.out.blk 0 rfl).cell 3; clear hb))
    go_ret2
    exact ⟨none, 0, rfl, ((Sep.start w).call S1.out.ext).nilrow _ _⟩
  | true =>
    rw [hck] at HC
    obtain ⟨e1, e2, e3, e4⟩ := checkR_half hck
    have r := offB_parts (halfB_off e4)
    have hof := offOk_of (halfB_off e4)
    have l1 := hO.nI
    have l2 := hV.nI
    by_cases h1 : v < 0
    · have b1 : decide (v < 0) = true := by simpa using h1
      have hno : outB true R v = false := by unfold outB; simp; omega
      rw [outL_no hno, hno]
      clear hO hT hR hV hck hno e1 e2 e3 e4 r hof l1 l2
      go_enter Tryz.func59, Tryz.ntmps59
      go_wp2_with (go_at_call 57; go_must (refine (HC.out _ S0.out.ext).mono ?_; rintro e w1 ⟨rfl, hb⟩; have S1 := Lib.hid (S0.out.call hb); have az := (S1.out.blk 0 rfl).lt; have a0 := (S1.out.blk 0 rfl).cell 0; have a1 := (S1.out.blk 0 rfl).cell 1; have a2 := (S1.out.blk 0 rfl).cell 2; have a3 := (S1.out.blk 0 rfl).cell 3; clear hb))
      go_ret2
      exact ⟨none, 0, rfl, ((Sep.start w).call S1.out.ext).nilrow _ _⟩
    · have b1 : decide (v < 0) = false := by simpa using h1
      by_cases h2 : (no:Int) - 1 ≤ v
      · have b2 : decide ((no:Int) - 1 ≤ v) = true := by simpa using h2
        have hno : outB true R v = false := by unfold outB; simp; omega
        rw [outL_no hno, hno]
        clear hO hT hR hV hck hno e1 e2 e3 e4 r hof l1 l2
        go_enter Tryz.func59, Tryz.ntmps59
        go_wp2_with (go_at_call 57; go_must (refine (HC.out _ S0.out.ext).mono ?_; rintro e w1 ⟨rfl, hb⟩; have S1 := Lib.hid (S0.out.call hb); have az := (S1.out.blk 0 rfl).lt; have a0 := (S1.out.blk 0 rfl).cell 0; have a1 := (S1.out.blk 0 rfl).cell 1; have a2 := (S1.out.blk 0 rfl).cell 2; have a3 := (S1.out.blk 0 rfl).cell 3; clear hb))
        go_ret2
        exact ⟨none, 0, rfl, ((Sep.start w).call S1.out.ext).nilrow _ _⟩
      · have b2 : decide ((no:Int) - 1 ≤ v) = false := by simpa using h2
        have hyes : outB true R v = true := by unfold outB; simp; omega
        rw [outL_yes hyes, hyes]
        obtain ⟨k, rfl⟩ : ∃ k : Nat, v = (k : Int) := ⟨v.toNat, by omega⟩
        rw [Int.toNat_natCast]
        have HRo := Lib.hid (fun W1 (h : Ext w W1) => row04 pr nr cr R pv nv cv V k W1 (hR.ext h) (hV.ext h) hcv hof (by omega) (by omega))
        clear hO hT hR hV hck hyes e1 e2 e3 e4 r hof l1 l2
        go_enter Tryz.func59, Tryz.ntmps59
        go_wp2_with (first | (go_at_call 89; go_must (refine (HRo.out _ S1.out.ext).mono ?_; rintro e w2 ⟨q, c, rfl, Z⟩; have S2 := Lib.hid (S1.out.comp Z); clear Z)) | (go_at_call 57; go_must (refine (HC.out _ S0.out.ext).mono ?_; rintro e w1 ⟨rfl, hb⟩; have S1 := Lib.hid (S0.out.call hb); have az := (S1.out.blk 0 rfl).lt; have a0 := (S1.out.blk 0 rfl).cell 0; have a1 := (S1.out.blk 0 rfl).cell 1; have a2 := (S1.out.blk 0 rfl).cell 2; have a3 := (S1.out.blk 0 rfl).cell 3; clear hb)))
        go_ret2
        exact ⟨q, c, rfl, S2.out.pick [0] (by decide) rfl⟩
end Go.Proofs.YtkekibnhmfmhmaaGreat
/- Chapter 18 (reference): Next. -/
namespace Go.Proofs.YtkekibnhmfmhmaaGreat
open Go Go.RowKit
attribute [local go_sem] Oper.semAt_some
set_option maxRecDepth 100000 in
set_option maxHeartbeats 16000000 in
theorem Next18 (k f t : Int) (pw : Option Addr) (nw cw : Nat) (rad most : Int) (po : Option Addr) (no co : Nat) (O : List Int) (pt : Option Addr) (nt ct : Nat) (T : List Int) (pr : Option Addr) (nr cr : Nat) (R : List Int) (pv : Option Addr) (nv cv : Nat) (V : List Int) (w : World) (s r v d : Int) (hO : Rd w 1 po no (encI O)) (hT : Rd w 1 pt nt (encI T)) (hR : Rd w 1 pr nr (encI R)) (hV : Rd w 1 pv nv (encI V)) (hct : nt ≤ ct) (hcv : nv ≤ cv) (hb : ∀ v, checkR O T R V = true → (outL (checkR O T R V) O T v).length ≤ 100000 ∧ (outL (checkR O T R V) R V v).length ≤ 100000) :
    Calls Tryz.prog 20 #[.agg #[.int .i64 k, .int .i64 f, .int .i64 t, .slice pw nw cw, .int .i64 rad, .int .i64 most], .agg #[.slice po no co, .slice pt nt ct, .slice pr nr cr, .slice pv nv cv], .agg #[.int .i64 s, .int .i64 r, .int .i64 v, .int .i64 d]] w fun e w' => ∃ q c, e = .returned (.tuple #[.slice q (nextL k rad (checkR O T R V) O T R V ⟨s, r, v, d⟩).length c, .int .i64 (nextC (checkR O T R V) O R ⟨s, r, v, d⟩)]) ∧ Sep w w' [.own 81 4 q (nextL k rad (checkR O T R V) O T R V ⟨s, r, v, d⟩).length c (encQ (nextL k rad (checkR O T R V) O T R V ⟨s, r, v, d⟩))] := by
  obtain ⟨i0, hi0, hz0, hz1, hz2⟩ := info_parts infMail
  have S0 := Lib.hid ((((Sep.start w).al #[.int .i64 k, .int .i64 f, .int .i64 t, .slice pw nw cw, .int .i64 rad, .int .i64 most] 24 w.heap.size rfl).al #[.slice po no co, .slice pt nt ct, .slice pr nr cr, .slice pv nv cv] 41 (w.heap.size + 1) (by simp)).al #[.int .i64 s, .int .i64 r, .int .i64 v, .int .i64 d] 45 (w.heap.size + 1 + 1) (by simp))
  have HC := Lib.hid (fun W1 (h : Ext w W1) => Check04 po no co O pt nt ct T pr nr cr R pv nv cv V W1 (hO.ext h) (hT.ext h) (hR.ext h) (hV.ext h) hct hcv)
  have HG := Lib.hid (fun W1 (h : Ext w W1) => Out04 po no co O pt nt ct T pr nr cr R pv nv cv V W1 v (hO.ext h) (hT.ext h) (hR.ext h) (hV.ext h) hct hcv)
  have HI := Lib.hid (fun W1 (h : Ext w W1) => In04 po no co O pt nt ct T pr nr cr R pv nv cv V W1 v (hO.ext h) (hT.ext h) (hR.ext h) (hV.ext h) hct hcv)
  have hOn := hO.nI
  have hOs := hO.small
  unfold nextL nextC
  cases hck : checkR O T R V with
  | false =>
    rw [hck] at HC
    rw [nxC_40, nxL_no (Or.inl (by decide))]
    clear hO hT hR hV hck hb HG HI hOn
    go_enter Tryz.func20, Tryz.ntmps20
    go_wp2_with (go_at_call 57; go_must (refine (HC.out _ S0.out.ext).mono ?_; rintro e w1 ⟨rfl, hb⟩; have S1 := Lib.hid (S0.out.call hb); have y0 := (S1.out.blk 0 rfl).cell 0; have y1 := (S1.out.blk 0 rfl).cell 1; have y2 := (S1.out.blk 0 rfl).cell 2; have y3 := (S1.out.blk 0 rfl).cell 3; have yz := (S1.out.blk 0 rfl).lt; have b0 := (S1.out.blk 1 rfl).cell 0; have b1 := (S1.out.blk 1 rfl).cell 1; have b2 := (S1.out.blk 1 rfl).cell 2; have b3 := (S1.out.blk 1 rfl).cell 3; have bz := (S1.out.blk 1 rfl).lt; have a0 := (S1.out.blk 2 rfl).cell 0; have a4 := (S1.out.blk 2 rfl).cell 4; have az := (S1.out.blk 2 rfl).lt; clear hb))
    go_ret2
    exact ⟨none, 0, rfl, (S1.out.nilrow _ _).pick [0] (by decide) rfl⟩
  | true =>
    obtain ⟨hor, _⟩ := checkR_half hck
    have hbL := hb v hck
    rw [hck] at HC HG HI hbL
    clear hO hT hR hV hck hb
    have HB : Hid (outB true (if r = 1 then R else O) v = (decide (0 ≤ v) && decide (v < (no:Int) - 1))) := by
      unfold Hid outB
      split
      · rw [← hor, ← hOn]; rfl
      · rw [← hOn]; rfl
    by_cases hbad : r < 0 ∨ 1 < r ∨ v < 0 ∨ (no:Int) - 1 ≤ v ∨ d < 0 ∨ 200 < d
    · have hN : nxC true (outB true (if r = 1 then R else O) v) ⟨s, r, v, d⟩ = 1 := by
        refine nxC_1 fun h => ?_
        rw [HB.out, Bool.and_eq_true, decide_eq_true_eq, decide_eq_true_eq] at h
        simp only at h
        omega
      simp only [hN]
      rw [nxL_no (Or.inl (by decide))]
      clear hN HB hbL HG HI hor hOn
      by_cases g1 : r < 0
      · clear hbad
        go_enter Tryz.func20, Tryz.ntmps20
        go_wp2_with (go_at_call 57; go_must (refine (HC.out _ S0.out.ext).mono ?_; rintro e w1 ⟨rfl, hb⟩; have S1 := Lib.hid ((S0.out.call hb).al #[.int .i64 s, .int .i64 r, .int .i64 v] 43 w1.heap.size rfl); have S1' := Lib.hid (S0.out.call hb); have y0 := (S1'.out.blk 0 rfl).cell 0; have y1 := (S1'.out.blk 0 rfl).cell 1; have y2 := (S1'.out.blk 0 rfl).cell 2; have y3 := (S1'.out.blk 0 rfl).cell 3; have yz := (S1'.out.blk 0 rfl).lt; have b0 := (S1'.out.blk 1 rfl).cell 0; have b1 := (S1'.out.blk 1 rfl).cell 1; have b2 := (S1'.out.blk 1 rfl).cell 2; have b3 := (S1'.out.blk 1 rfl).cell 3; have bz := (S1'.out.blk 1 rfl).lt; have a0 := (S1'.out.blk 2 rfl).cell 0; have a4 := (S1'.out.blk 2 rfl).cell 4; have az := (S1'.out.blk 2 rfl).lt; clear hb S1'))
        go_ret2
        exact ⟨none, 0, rfl, (S1.out.nilrow _ _).pick [0] (by decide) rfl⟩
      · have f1 : decide (r < 0) = false := by simpa using g1
        by_cases g2 : 1 < r
        · have f2 : decide (1 < r) = true := by simpa using g2
          clear hbad
          go_enter Tryz.func20, Tryz.ntmps20
          go_wp2_with (go_at_call 57; go_must (refine (HC.out _ S0.out.ext).mono ?_; rintro e w1 ⟨rfl, hb⟩; have S1 := Lib.hid ((S0.out.call hb).al #[.int .i64 s, .int .i64 r, .int .i64 v] 43 w1.heap.size rfl); have S1' := Lib.hid (S0.out.call hb); have y0 := (S1'.out.blk 0 rfl).cell 0; have y1 := (S1'.out.blk 0 rfl).cell 1; have y2 := (S1'.out.blk 0 rfl).cell 2; have y3 := (S1'.out.blk 0 rfl).cell 3; have yz := (S1'.out.blk 0 rfl).lt; have b0 := (S1'.out.blk 1 rfl).cell 0; have b1 := (S1'.out.blk 1 rfl).cell 1; have b2 := (S1'.out.blk 1 rfl).cell 2; have b3 := (S1'.out.blk 1 rfl).cell 3; have bz := (S1'.out.blk 1 rfl).lt; have a0 := (S1'.out.blk 2 rfl).cell 0; have a4 := (S1'.out.blk 2 rfl).cell 4; have az := (S1'.out.blk 2 rfl).lt; clear hb S1'))
          go_ret2
          exact ⟨none, 0, rfl, (S1.out.nilrow _ _).pick [0] (by decide) rfl⟩
        · have f2 : decide (1 < r) = false := by simpa using g2
          by_cases g3 : v < 0
          · clear hbad
            go_enter Tryz.func20, Tryz.ntmps20
            go_wp2_with (go_at_call 57; go_must (refine (HC.out _ S0.out.ext).mono ?_; rintro e w1 ⟨rfl, hb⟩; have S1 := Lib.hid ((S0.out.call hb).al #[.int .i64 s, .int .i64 r, .int .i64 v] 43 w1.heap.size rfl); have S1' := Lib.hid (S0.out.call hb); have y0 := (S1'.out.blk 0 rfl).cell 0; have y1 := (S1'.out.blk 0 rfl).cell 1; have y2 := (S1'.out.blk 0 rfl).cell 2; have y3 := (S1'.out.blk 0 rfl).cell 3; have yz := (S1'.out.blk 0 rfl).lt; have b0 := (S1'.out.blk 1 rfl).cell 0; have b1 := (S1'.out.blk 1 rfl).cell 1; have b2 := (S1'.out.blk 1 rfl).cell 2; have b3 := (S1'.out.blk 1 rfl).cell 3; have bz := (S1'.out.blk 1 rfl).lt; have a0 := (S1'.out.blk 2 rfl).cell 0; have a4 := (S1'.out.blk 2 rfl).cell 4; have az := (S1'.out.blk 2 rfl).lt; clear hb S1'))
            go_ret2
            exact ⟨none, 0, rfl, (S1.out.nilrow _ _).pick [0] (by decide) rfl⟩
          · have f3 : decide (v < 0) = false := by simpa using g3
            by_cases g4 : (no:Int) - 1 ≤ v
            · have f4 : decide ((no:Int) - 1 ≤ v) = true := by simpa using g4
              clear hbad
              go_enter Tryz.func20, Tryz.ntmps20
              go_wp2_with (go_at_call 57; go_must (refine (HC.out _ S0.out.ext).mono ?_; rintro e w1 ⟨rfl, hb⟩; have S1 := Lib.hid ((S0.out.call hb).al #[.int .i64 s, .int .i64 r, .int .i64 v] 43 w1.heap.size rfl); have S1' := Lib.hid (S0.out.call hb); have y0 := (S1'.out.blk 0 rfl).cell 0; have y1 := (S1'.out.blk 0 rfl).cell 1; have y2 := (S1'.out.blk 0 rfl).cell 2; have y3 := (S1'.out.blk 0 rfl).cell 3; have yz := (S1'.out.blk 0 rfl).lt; have b0 := (S1'.out.blk 1 rfl).cell 0; have b1 := (S1'.out.blk 1 rfl).cell 1; have b2 := (S1'.out.blk 1 rfl).cell 2; have b3 := (S1'.out.blk 1 rfl).cell 3; have bz := (S1'.out.blk 1 rfl).lt; have a0 := (S1'.out.blk 2 rfl).cell 0; have a4 := (S1'.out.blk 2 rfl).cell 4; have az := (S1'.out.blk 2 rfl).lt; clear hb S1'))
              go_ret2
              exact ⟨none, 0, rfl, (S1.out.nilrow _ _).pick [0] (by decide) rfl⟩
            · have f4 : decide ((no:Int) - 1 ≤ v) = false := by simpa using g4
              by_cases g5 : d < 0
              · clear hbad
                go_enter Tryz.func20, Tryz.ntmps20
                go_wp2_with (go_at_call 57; go_must (refine (HC.out _ S0.out.ext).mono ?_; rintro e w1 ⟨rfl, hb⟩; have S1 := Lib.hid ((S0.out.call hb).al #[.int .i64 s, .int .i64 r, .int .i64 v] 43 w1.heap.size rfl); have S1' := Lib.hid (S0.out.call hb); have y0 := (S1'.out.blk 0 rfl).cell 0; have y1 := (S1'.out.blk 0 rfl).cell 1; have y2 := (S1'.out.blk 0 rfl).cell 2; have y3 := (S1'.out.blk 0 rfl).cell 3; have yz := (S1'.out.blk 0 rfl).lt; have b0 := (S1'.out.blk 1 rfl).cell 0; have b1 := (S1'.out.blk 1 rfl).cell 1; have b2 := (S1'.out.blk 1 rfl).cell 2; have b3 := (S1'.out.blk 1 rfl).cell 3; have bz := (S1'.out.blk 1 rfl).lt; have a0 := (S1'.out.blk 2 rfl).cell 0; have a4 := (S1'.out.blk 2 rfl).cell 4; have az := (S1'.out.blk 2 rfl).lt; clear hb S1'))
                go_ret2
                exact ⟨none, 0, rfl, (S1.out.nilrow _ _).pick [0] (by decide) rfl⟩
              · have f5 : decide (d < 0) = false := by simpa using g5
                have f6 : decide (200 < d) = true := by simp; omega
                clear hbad
                go_enter Tryz.func20, Tryz.ntmps20
                go_wp2_with (go_at_call 57; go_must (refine (HC.out _ S0.out.ext).mono ?_; rintro e w1 ⟨rfl, hb⟩; have S1 := Lib.hid ((S0.out.call hb).al #[.int .i64 s, .int .i64 r, .int .i64 v] 43 w1.heap.size rfl); have S1' := Lib.hid (S0.out.call hb); have y0 := (S1'.out.blk 0 rfl).cell 0; have y1 := (S1'.out.blk 0 rfl).cell 1; have y2 := (S1'.out.blk 0 rfl).cell 2; have y3 := (S1'.out.blk 0 rfl).cell 3; have yz := (S1'.out.blk 0 rfl).lt; have b0 := (S1'.out.blk 1 rfl).cell 0; have b1 := (S1'.out.blk 1 rfl).cell 1; have b2 := (S1'.out.blk 1 rfl).cell 2; have b3 := (S1'.out.blk 1 rfl).cell 3; have bz := (S1'.out.blk 1 rfl).lt; have a0 := (S1'.out.blk 2 rfl).cell 0; have a4 := (S1'.out.blk 2 rfl).cell 4; have az := (S1'.out.blk 2 rfl).lt; clear hb S1'))
                go_ret2
                exact ⟨none, 0, rfl, (S1.out.nilrow _ _).pick [0] (by decide) rfl⟩
    · have f1 : decide (r < 0) = false := by simp; omega
      have f2 : decide (1 < r) = false := by simp; omega
      have f3 : decide (v < 0) = false := by simp; omega
      have f4 : decide ((no:Int) - 1 ≤ v) = false := by simp; omega
      have f5 : decide (d < 0) = false := by simp; omega
      have f6 : decide (200 < d) = false := by simp; omega
      have hN : nxC true (outB true (if r = 1 then R else O) v) ⟨s, r, v, d⟩ = 0 := by
        refine nxC_0 ?_
        rw [HB.out, Bool.and_eq_true, decide_eq_true_eq, decide_eq_true_eq]
        simp only
        omega
      simp only [hN]
      by_cases h3 : k = 3 ∧ rad ≤ d
      · rw [nxL_no (Or.inr h3)]
        obtain ⟨rfl, h3⟩ := h3
        clear hN HB hbL HG HI hor hOn hbad
        go_enter Tryz.func20, Tryz.ntmps20
        go_wp2_with (go_at_call 57; go_must (refine (HC.out _ S0.out.ext).mono ?_; rintro e w1 ⟨rfl, hb⟩; have S1 := Lib.hid ((S0.out.call hb).al #[.int .i64 s, .int .i64 r, .int .i64 v] 43 w1.heap.size rfl); have S1' := Lib.hid (S0.out.call hb); have y0 := (S1'.out.blk 0 rfl).cell 0; have y1 := (S1'.out.blk 0 rfl).cell 1; have y2 := (S1'.out.blk 0 rfl).cell 2; have y3 := (S1'.out.blk 0 rfl).cell 3; have yz := (S1'.out.blk 0 rfl).lt; have b0 := (S1'.out.blk 1 rfl).cell 0; have b1 := (S1'.out.blk 1 rfl).cell 1; have b2 := (S1'.out.blk 1 rfl).cell 2; have b3 := (S1'.out.blk 1 rfl).cell 3; have bz := (S1'.out.blk 1 rfl).lt; have a0 := (S1'.out.blk 2 rfl).cell 0; have a4 := (S1'.out.blk 2 rfl).cell 4; have az := (S1'.out.blk 2 rfl).lt; clear hb S1'))
        go_ret2
        exact ⟨none, 0, rfl, (S1.out.nilrow _ _).pick [0] (by decide) rfl⟩
      · rw [nxL_yes rfl h3, List.length_map]
        have H3 : Hid (k = 3 → d < rad) := fun e => Int.not_le.1 fun h => h3 ⟨e, h⟩
        have hk3 : (k == 3) = true ∧ decide (rad ≤ d) = false ∨ (k == 3) = false := by
          by_cases e : k = 3
          · exact .inl ⟨by simpa using e, by simpa using H3.out e⟩
          · exact .inr (by simpa using e)
        have hd0 : 0 ≤ d := by omega
        have hd1 : d ≤ 200 := by omega
        have hr01 : r = 0 ∨ r = 1 := by omega
        clear H3 h3 hN HB hor hOn hbad
        rcases hr01 with hr | hr
        · simp only [show ¬ (r = 1) from by omega, if_false]
          have e1 : (r == 1) = false := by rw [hr]; rfl
          have HL := Lib.hid hbL.1
          clear hbL HI hr
          generalize outL true O T v = L at *
          generalize outB true O v = ob at *
          rcases hk3 with ⟨k3, k4⟩ | k3
          · obtain rfl : k = 3 := by simpa using k3
            clear k3
            go_enter Tryz.func20, Tryz.ntmps20
            go_wp2_with (first | (go_at_call 58; go_must (refine (HG.out _ S1.out.ext).mono ?_; rintro e w2 ⟨q, c, rfl, Z⟩; have S2 := Lib.hid (S1.out.comp Z); clear y0 y1 y2 y3 yz b0 b1 b2 b3 bz a0 a4 az; have y0 := (S2.out.blk 2 rfl).cell 0; have y1 := (S2.out.blk 2 rfl).cell 1; have y2 := (S2.out.blk 2 rfl).cell 2; have y3 := (S2.out.blk 2 rfl).cell 3; have yz := (S2.out.blk 2 rfl).lt; have b0 := (S2.out.blk 3 rfl).cell 0; have b1 := (S2.out.blk 3 rfl).cell 1; have b2 := (S2.out.blk 3 rfl).cell 2; have b3 := (S2.out.blk 3 rfl).cell 3; have bz := (S2.out.blk 3 rfl).lt; have a0 := (S2.out.blk 4 rfl).cell 0; have a4 := (S2.out.blk 4 rfl).cell 4; have az := (S2.out.blk 4 rfl).lt; have e0 := (S2.out.blk 1 rfl).cell 0; have e1 := (S2.out.blk 1 rfl).cell 1; have e2 := (S2.out.blk 1 rfl).cell 2; have ez := (S2.out.blk 1 rfl).lt; clear Z)) | (go_at_call 57; go_must (refine (HC.out _ S0.out.ext).mono ?_; rintro e w1 ⟨rfl, hb⟩; have S1 := Lib.hid ((S0.out.call hb).al #[.int .i64 s, .int .i64 r, .int .i64 v] 43 w1.heap.size rfl); have S1' := Lib.hid (S0.out.call hb); have y0 := (S1'.out.blk 0 rfl).cell 0; have y1 := (S1'.out.blk 0 rfl).cell 1; have y2 := (S1'.out.blk 0 rfl).cell 2; have y3 := (S1'.out.blk 0 rfl).cell 3; have yz := (S1'.out.blk 0 rfl).lt; have b0 := (S1'.out.blk 1 rfl).cell 0; have b1 := (S1'.out.blk 1 rfl).cell 1; have b2 := (S1'.out.blk 1 rfl).cell 2; have b3 := (S1'.out.blk 1 rfl).cell 3; have bz := (S1'.out.blk 1 rfl).lt; have a0 := (S1'.out.blk 2 rfl).cell 0; have a4 := (S1'.out.blk 2 rfl).cell 4; have az := (S1'.out.blk 2 rfl).lt; clear hb S1')))
            have S9 := Lib.hid ((S2.out.nilrow 81 4).pick [0, 1, 2, 3] (by decide) rfl : Sep w _ [.own 81 4 none 0 0 [], .own 3 1 q L.length c (encI L), .blk w1.heap.size 43 #[.int .i64 s, .int .i64 r, .int .i64 v], .blk (w.heap.size + 1 + 1) 45 #[.int .i64 s, .int .i64 r, .int .i64 v, .int .i64 d]])
            clear S0 S1 S2 HC HG
            go_loopw [13, 14] (fun m i wr => ∃ (j : Nat) (q' : Option Addr) (c' : Nat), j ≤ L.length ∧ i = .int .i64 j ∧ m = .slice q' j c' ∧ Sep w wr [.own 81 4 q' j c' (encQ ((L.take j).map fun v => (⟨s, r, v, d + 1⟩ : Sq))), .own 3 1 q L.length c (encI L), .blk w1.heap.size 43 #[.int .i64 s, .int .i64 r, .int .i64 v], .blk (w.heap.size + 1 + 1) 45 #[.int .i64 s, .int .i64 r, .int .i64 v, .int .i64 d]]) (fun _ i _ => L.length - (intOf i).toNat)
            case atStart => exact ⟨0, none, 0, Nat.zero_le _, rfl, rfl, S9.out⟩
            case round =>
              clear S9
              obtain ⟨j, q', c', hj, rfl, rfl, S⟩ := hrel
              by_cases hlt : j < L.length
              · have g1 := (S.rdx 1 rfl).cI hlt
                have pq := (S.rdx 1 rfl).ptr
                have pn := (S.rdx 1 rfl).small
                have HT := Lib.hid (take_succ_nth L j hlt)
                have HCU : Hid (∀ W, Rd W 1 q L.length (encI L) → W.cell? (adr q j) = some (.int .i64 (nth L j))) := fun W hr => hr.cI hlt
                have d1 : (0:Int) ≤ j := by omega
                have d2 : (j:Int) < L.length := by omega
                have hl := HL.out
                have hwd : IntKind.i64.wrap (d + 1) = d + 1 := IntWalk.i64_in _ (by omega)
                have SH := Lib.hid S; clear S
                generalize nth L j = u at *
                clear g1
                go_wp2
                have k1 : wr.cell? ⟨w1.heap.size, 0, none⟩ = some (.int .i64 s) := (SH.out.blk 2 rfl).cell 0
                have k2 : wr.cell? ⟨w1.heap.size, 1, none⟩ = some (.int .i64 r) := (SH.out.blk 2 rfl).cell 1
                have k3 := HCU.out _ (SH.out.rdx 1 rfl)
                have k4 : wr.cell? ⟨w.heap.size + 1 + 1, 3, none⟩ = some (.int .i64 d) := (SH.out.blk 3 rfl).cell 3
                refine wp_region_noPanic ?_
                refine wp_region_held_drew (S := fun w' => w'.cell? ⟨w1.heap.size, 0, none⟩ = some (.int .i64 s) ∧ w'.cell? ⟨w1.heap.size, 1, none⟩ = some (.int .i64 r) ∧ w'.cell? (adr q j) = some (.int .i64 u) ∧ w'.cell? ⟨w.heap.size + 1 + 1, 3, none⟩ = some (.int .i64 d)) (by kernel_rfl) ⟨k1, k2, k3, k4⟩ (fun hHeld => ?_)
                clear k1 k2 k3 k4
                have SD := Lib.hid SH.out.drew
                clear SH
                generalize wr.drew = D at SD hHeld ⊢
                refine wpAnyH_take (i := 0) (v := .slice q' j c') rfl (by kernel_rfl) (by kernel_rfl) (by kernel_rfl) (noPanic_q _ _) (Or.inl ⟨by kernel_rfl, fun W hSw => by obtain ⟨h1, h2, h3, h4⟩ := hSw; go_simp⟩) hHeld ?_
                refine wpAnyH_take (i := 1) (v := .pointer (some ⟨w1.heap.size, 0, none⟩)) rfl (by kernel_rfl) (by kernel_rfl) (by kernel_rfl) (noPanic_q _ _) (Or.inl ⟨by kernel_rfl, fun W hSw => by obtain ⟨h1, h2, h3, h4⟩ := hSw; go_simp⟩) hHeld ?_
                refine wpAnyH_take (i := 2) (v := .int .i64 s) rfl (by kernel_rfl) (by kernel_rfl) (by kernel_rfl) (noPanic_q _ _) (Or.inl ⟨by kernel_rfl, fun W hSw => by obtain ⟨h1, h2, h3, h4⟩ := hSw; go_simp⟩) hHeld ?_
                refine wpAnyH_take (i := 3) (v := .pointer (some ⟨w1.heap.size, 1, none⟩)) rfl (by kernel_rfl) (by kernel_rfl) (by kernel_rfl) (noPanic_q _ _) (Or.inl ⟨by kernel_rfl, fun W hSw => by obtain ⟨h1, h2, h3, h4⟩ := hSw; go_simp⟩) hHeld ?_
                refine wpAnyH_take (i := 4) (v := .int .i64 r) rfl (by kernel_rfl) (by kernel_rfl) (by kernel_rfl) (noPanic_q _ _) (Or.inl ⟨by kernel_rfl, fun W hSw => by obtain ⟨h1, h2, h3, h4⟩ := hSw; go_simp⟩) hHeld ?_
                refine wpAnyH_take (i := 5) (v := .slice q L.length c) rfl (by kernel_rfl) (by kernel_rfl) (by kernel_rfl) (noPanic_q _ _) (Or.inl ⟨by kernel_rfl, fun W hSw => by obtain ⟨h1, h2, h3, h4⟩ := hSw; go_simp⟩) hHeld ?_
                refine wpAnyH_take (i := 6) (v := .int .i64 (j:Int)) rfl (by kernel_rfl) (by kernel_rfl) (by kernel_rfl) (noPanic_q _ _) (Or.inl ⟨by kernel_rfl, fun W hSw => by obtain ⟨h1, h2, h3, h4⟩ := hSw; go_simp⟩) hHeld ?_
                refine wpAnyH_take (i := 7) (v := .pointer (some (adr q j))) rfl (by kernel_rfl) (by kernel_rfl) (by kernel_rfl) (noPanic_q _ _) (Or.inl ⟨by kernel_rfl, fun W hSw => by obtain ⟨h1, h2, h3, h4⟩ := hSw; go_simp⟩) hHeld ?_
                refine wpAnyH_take (i := 8) (v := .int .i64 u) rfl (by kernel_rfl) (by kernel_rfl) (by kernel_rfl) (noPanic_q _ _) (Or.inl ⟨by kernel_rfl, fun W hSw => by obtain ⟨h1, h2, h3, h4⟩ := hSw; go_simp⟩) hHeld ?_
                refine wpAnyH_take (i := 9) (v := .agg #[.int .i64 s, .int .i64 r, .int .i64 u]) rfl (by kernel_rfl) (by kernel_rfl) (by kernel_rfl) (noPanic_q _ _) (Or.inl ⟨by kernel_rfl, fun W hSw => by obtain ⟨h1, h2, h3, h4⟩ := hSw; go_simp⟩) hHeld ?_
                refine wpAnyH_take (i := 10) (v := .pointer (some ⟨w.heap.size + 1 + 1, 3, none⟩)) rfl (by kernel_rfl) (by kernel_rfl) (by kernel_rfl) (noPanic_q _ _) (Or.inl ⟨by kernel_rfl, fun W hSw => by obtain ⟨h1, h2, h3, h4⟩ := hSw; go_simp⟩) hHeld ?_
                refine wpAnyH_take (i := 11) (v := .int .i64 d) rfl (by kernel_rfl) (by kernel_rfl) (by kernel_rfl) (noPanic_q _ _) (Or.inl ⟨by kernel_rfl, fun W hSw => by obtain ⟨h1, h2, h3, h4⟩ := hSw; go_simp⟩) hHeld ?_
                refine wpAnyH_take (i := 12) (v := .int .i64 (d + 1)) rfl (by kernel_rfl) (by kernel_rfl) (by kernel_rfl) (noPanic_q _ _) (Or.inl ⟨by kernel_rfl, fun W hSw => by obtain ⟨h1, h2, h3, h4⟩ := hSw; go_simp⟩) hHeld ?_
                refine wpAnyH_take (i := 13) (v := .agg #[.int .i64 s, .int .i64 r, .int .i64 u, .int .i64 (d + 1)]) rfl (by kernel_rfl) (by kernel_rfl) (by kernel_rfl) (noPanic_q _ _) (Or.inl ⟨by kernel_rfl, fun W hSw => by obtain ⟨h1, h2, h3, h4⟩ := hSw; go_simp⟩) hHeld ?_
                have SA := Lib.hid (SD.out.alrw #[.int .i64 s, .int .i64 r, .int .i64 u, .int .i64 (d + 1)] 81 4 1 D.heap.size rfl (by decide) rfl)
                obtain ⟨q7, c7, w7, hrun, S'⟩ := SA.out.appended 1 27 27 81 i0 _ 4 32 Tryz.underlying27 hi0 hz0 hz1 hz2 rfl (by omega) q' j c' (encQ ((L.take j).map fun v => (⟨s, r, v, d + 1⟩ : Sq))) rfl (some ⟨D.heap.size, 0, none⟩) 1 1 (encQ [⟨s, r, u, d + 1⟩]) (SA.out.rdx 0 rfl) (one_encQ _) (by omega) (by omega)
                have S7 := Lib.hid S'
                refine wpAnyH_ready (rs := [14]) (by kernel_rfl) (by simp) (AllReadyH.cons rfl (fun K hK => ?_) AllReadyH.nil)
                go_simp
                refine hK.out _ _ ⟨(SA.out.blk 3 rfl).cell 0, (SA.out.blk 3 rfl).cell 1, HCU.out _ (SA.out.rdx 2 rfl), (SA.out.blk 4 rfl).cell 3⟩ (fun hHeld => ?_)
                clear hK
                refine wpAnyH_ready (rs := [15]) (by kernel_rfl) (by simp) (AllReadyH.cons rfl (fun K hK => ?_) AllReadyH.nil)
                rw [if_pos (by rfl)]
                refine operwp_append (.tmp 86) (.tmp 100) 27 (by rfl) (by rfl) (by rfl) hrun ?_
                refine hK.out _ _ ⟨(S7.out.blk 3 rfl).cell 0, (S7.out.blk 3 rfl).cell 1, HCU.out _ (S7.out.rdx 2 rfl), (S7.out.blk 4 rfl).cell 3⟩ (fun hHeld => ?_)
                clear hK
                refine wpAnyH_take (i := 16) (v := .slice q7 (j + 1) c7) rfl (by kernel_rfl) (by kernel_rfl) (by kernel_rfl) (noPanic_q _ _) (Or.inl ⟨by kernel_rfl, fun W hSw => by obtain ⟨h1, h2, h3, h4⟩ := hSw; go_simp⟩) hHeld ?_
                refine wpAnyH_done (by kernel_rfl) ?_ _
                refine noPanic_mk ?_
                clear hHeld hrun S'
                try simp [Act.put]
                go_wp2
                go_roundw
                case rel => exact ⟨j + 1, q7, c7, by omega, by go_num, rfl, by rw [HT.out, List.map_append, encQ_append]; exact S7.out.pick [1, 2, 3, 4] (by decide) rfl⟩
                case measure => simp [intOf]; omega
              · obtain rfl : j = L.length := by omega
                rw [List.take_length] at S
                have SH := Lib.hid S; clear S
                go_wp2
                go_ret2
                exact ⟨q', c', rfl, SH.out.pick [0] (by decide) rfl⟩
          · go_enter Tryz.func20, Tryz.ntmps20
            go_wp2_with (first | (go_at_call 58; go_must (refine (HG.out _ S1.out.ext).mono ?_; rintro e w2 ⟨q, c, rfl, Z⟩; have S2 := Lib.hid (S1.out.comp Z); clear y0 y1 y2 y3 yz b0 b1 b2 b3 bz a0 a4 az; have y0 := (S2.out.blk 2 rfl).cell 0; have y1 := (S2.out.blk 2 rfl).cell 1; have y2 := (S2.out.blk 2 rfl).cell 2; have y3 := (S2.out.blk 2 rfl).cell 3; have yz := (S2.out.blk 2 rfl).lt; have b0 := (S2.out.blk 3 rfl).cell 0; have b1 := (S2.out.blk 3 rfl).cell 1; have b2 := (S2.out.blk 3 rfl).cell 2; have b3 := (S2.out.blk 3 rfl).cell 3; have bz := (S2.out.blk 3 rfl).lt; have a0 := (S2.out.blk 4 rfl).cell 0; have a4 := (S2.out.blk 4 rfl).cell 4; have az := (S2.out.blk 4 rfl).lt; have e0 := (S2.out.blk 1 rfl).cell 0; have e1 := (S2.out.blk 1 rfl).cell 1; have e2 := (S2.out.blk 1 rfl).cell 2; have ez := (S2.out.blk 1 rfl).lt; clear Z)) | (go_at_call 57; go_must (refine (HC.out _ S0.out.ext).mono ?_; rintro e w1 ⟨rfl, hb⟩; have S1 := Lib.hid ((S0.out.call hb).al #[.int .i64 s, .int .i64 r, .int .i64 v] 43 w1.heap.size rfl); have S1' := Lib.hid (S0.out.call hb); have y0 := (S1'.out.blk 0 rfl).cell 0; have y1 := (S1'.out.blk 0 rfl).cell 1; have y2 := (S1'.out.blk 0 rfl).cell 2; have y3 := (S1'.out.blk 0 rfl).cell 3; have yz := (S1'.out.blk 0 rfl).lt; have b0 := (S1'.out.blk 1 rfl).cell 0; have b1 := (S1'.out.blk 1 rfl).cell 1; have b2 := (S1'.out.blk 1 rfl).cell 2; have b3 := (S1'.out.blk 1 rfl).cell 3; have bz := (S1'.out.blk 1 rfl).lt; have a0 := (S1'.out.blk 2 rfl).cell 0; have a4 := (S1'.out.blk 2 rfl).cell 4; have az := (S1'.out.blk 2 rfl).lt; clear hb S1')))
            have S9 := Lib.hid ((S2.out.nilrow 81 4).pick [0, 1, 2, 3] (by decide) rfl : Sep w _ [.own 81 4 none 0 0 [], .own 3 1 q L.length c (encI L), .blk w1.heap.size 43 #[.int .i64 s, .int .i64 r, .int .i64 v], .blk (w.heap.size + 1 + 1) 45 #[.int .i64 s, .int .i64 r, .int .i64 v, .int .i64 d]])
            clear S0 S1 S2 HC HG
            go_loopw [13, 14] (fun m i wr => ∃ (j : Nat) (q' : Option Addr) (c' : Nat), j ≤ L.length ∧ i = .int .i64 j ∧ m = .slice q' j c' ∧ Sep w wr [.own 81 4 q' j c' (encQ ((L.take j).map fun v => (⟨s, r, v, d + 1⟩ : Sq))), .own 3 1 q L.length c (encI L), .blk w1.heap.size 43 #[.int .i64 s, .int .i64 r, .int .i64 v], .blk (w.heap.size + 1 + 1) 45 #[.int .i64 s, .int .i64 r, .int .i64 v, .int .i64 d]]) (fun _ i _ => L.length - (intOf i).toNat)
            case atStart => exact ⟨0, none, 0, Nat.zero_le _, rfl, rfl, S9.out⟩
            case round =>
              clear S9
              obtain ⟨j, q', c', hj, rfl, rfl, S⟩ := hrel
              by_cases hlt : j < L.length
              · have g1 := (S.rdx 1 rfl).cI hlt
                have pq := (S.rdx 1 rfl).ptr
                have pn := (S.rdx 1 rfl).small
                have HT := Lib.hid (take_succ_nth L j hlt)
                have HCU : Hid (∀ W, Rd W 1 q L.length (encI L) → W.cell? (adr q j) = some (.int .i64 (nth L j))) := fun W hr => hr.cI hlt
                have d1 : (0:Int) ≤ j := by omega
                have d2 : (j:Int) < L.length := by omega
                have hl := HL.out
                have hwd : IntKind.i64.wrap (d + 1) = d + 1 := IntWalk.i64_in _ (by omega)
                have SH := Lib.hid S; clear S
                generalize nth L j = u at *
                clear g1
                go_wp2
                have k1 : wr.cell? ⟨w1.heap.size, 0, none⟩ = some (.int .i64 s) := (SH.out.blk 2 rfl).cell 0
                have k2 : wr.cell? ⟨w1.heap.size, 1, none⟩ = some (.int .i64 r) := (SH.out.blk 2 rfl).cell 1
                have k3 := HCU.out _ (SH.out.rdx 1 rfl)
                have k4 : wr.cell? ⟨w.heap.size + 1 + 1, 3, none⟩ = some (.int .i64 d) := (SH.out.blk 3 rfl).cell 3
                refine wp_region_noPanic ?_
                refine wp_region_held_drew (S := fun w' => w'.cell? ⟨w1.heap.size, 0, none⟩ = some (.int .i64 s) ∧ w'.cell? ⟨w1.heap.size, 1, none⟩ = some (.int .i64 r) ∧ w'.cell? (adr q j) = some (.int .i64 u) ∧ w'.cell? ⟨w.heap.size + 1 + 1, 3, none⟩ = some (.int .i64 d)) (by kernel_rfl) ⟨k1, k2, k3, k4⟩ (fun hHeld => ?_)
                clear k1 k2 k3 k4
                have SD := Lib.hid SH.out.drew
                clear SH
                generalize wr.drew = D at SD hHeld ⊢
                refine wpAnyH_take (i := 0) (v := .slice q' j c') rfl (by kernel_rfl) (by kernel_rfl) (by kernel_rfl) (noPanic_q _ _) (Or.inl ⟨by kernel_rfl, fun W hSw => by obtain ⟨h1, h2, h3, h4⟩ := hSw; go_simp⟩) hHeld ?_
                refine wpAnyH_take (i := 1) (v := .pointer (some ⟨w1.heap.size, 0, none⟩)) rfl (by kernel_rfl) (by kernel_rfl) (by kernel_rfl) (noPanic_q _ _) (Or.inl ⟨by kernel_rfl, fun W hSw => by obtain ⟨h1, h2, h3, h4⟩ := hSw; go_simp⟩) hHeld ?_
                refine wpAnyH_take (i := 2) (v := .int .i64 s) rfl (by kernel_rfl) (by kernel_rfl) (by kernel_rfl) (noPanic_q _ _) (Or.inl ⟨by kernel_rfl, fun W hSw => by obtain ⟨h1, h2, h3, h4⟩ := hSw; go_simp⟩) hHeld ?_
                refine wpAnyH_take (i := 3) (v := .pointer (some ⟨w1.heap.size, 1, none⟩)) rfl (by kernel_rfl) (by kernel_rfl) (by kernel_rfl) (noPanic_q _ _) (Or.inl ⟨by kernel_rfl, fun W hSw => by obtain ⟨h1, h2, h3, h4⟩ := hSw; go_simp⟩) hHeld ?_
                refine wpAnyH_take (i := 4) (v := .int .i64 r) rfl (by kernel_rfl) (by kernel_rfl) (by kernel_rfl) (noPanic_q _ _) (Or.inl ⟨by kernel_rfl, fun W hSw => by obtain ⟨h1, h2, h3, h4⟩ := hSw; go_simp⟩) hHeld ?_
                refine wpAnyH_take (i := 5) (v := .slice q L.length c) rfl (by kernel_rfl) (by kernel_rfl) (by kernel_rfl) (noPanic_q _ _) (Or.inl ⟨by kernel_rfl, fun W hSw => by obtain ⟨h1, h2, h3, h4⟩ := hSw; go_simp⟩) hHeld ?_
                refine wpAnyH_take (i := 6) (v := .int .i64 (j:Int)) rfl (by kernel_rfl) (by kernel_rfl) (by kernel_rfl) (noPanic_q _ _) (Or.inl ⟨by kernel_rfl, fun W hSw => by obtain ⟨h1, h2, h3, h4⟩ := hSw; go_simp⟩) hHeld ?_
                refine wpAnyH_take (i := 7) (v := .pointer (some (adr q j))) rfl (by kernel_rfl) (by kernel_rfl) (by kernel_rfl) (noPanic_q _ _) (Or.inl ⟨by kernel_rfl, fun W hSw => by obtain ⟨h1, h2, h3, h4⟩ := hSw; go_simp⟩) hHeld ?_
                refine wpAnyH_take (i := 8) (v := .int .i64 u) rfl (by kernel_rfl) (by kernel_rfl) (by kernel_rfl) (noPanic_q _ _) (Or.inl ⟨by kernel_rfl, fun W hSw => by obtain ⟨h1, h2, h3, h4⟩ := hSw; go_simp⟩) hHeld ?_
                refine wpAnyH_take (i := 9) (v := .agg #[.int .i64 s, .int .i64 r, .int .i64 u]) rfl (by kernel_rfl) (by kernel_rfl) (by kernel_rfl) (noPanic_q _ _) (Or.inl ⟨by kernel_rfl, fun W hSw => by obtain ⟨h1, h2, h3, h4⟩ := hSw; go_simp⟩) hHeld ?_
                refine wpAnyH_take (i := 10) (v := .pointer (some ⟨w.heap.size + 1 + 1, 3, none⟩)) rfl (by kernel_rfl) (by kernel_rfl) (by kernel_rfl) (noPanic_q _ _) (Or.inl ⟨by kernel_rfl, fun W hSw => by obtain ⟨h1, h2, h3, h4⟩ := hSw; go_simp⟩) hHeld ?_
                refine wpAnyH_take (i := 11) (v := .int .i64 d) rfl (by kernel_rfl) (by kernel_rfl) (by kernel_rfl) (noPanic_q _ _) (Or.inl ⟨by kernel_rfl, fun W hSw => by obtain ⟨h1, h2, h3, h4⟩ := hSw; go_simp⟩) hHeld ?_
                refine wpAnyH_take (i := 12) (v := .int .i64 (d + 1)) rfl (by kernel_rfl) (by kernel_rfl) (by kernel_rfl) (noPanic_q _ _) (Or.inl ⟨by kernel_rfl, fun W hSw => by obtain ⟨h1, h2, h3, h4⟩ := hSw; go_simp⟩) hHeld ?_
                refine wpAnyH_take (i := 13) (v := .agg #[.int .i64 s, .int .i64 r, .int .i64 u, .int .i64 (d + 1)]) rfl (by kernel_rfl) (by kernel_rfl) (by kernel_rfl) (noPanic_q _ _) (Or.inl ⟨by kernel_rfl, fun W hSw => by obtain ⟨h1, h2, h3, h4⟩ := hSw; go_simp⟩) hHeld ?_
                have SA := Lib.hid (SD.out.alrw #[.int .i64 s, .int .i64 r, .int .i64 u, .int .i64 (d + 1)] 81 4 1 D.heap.size rfl (by decide) rfl)
                obtain ⟨q7, c7, w7, hrun, S'⟩ := SA.out.appended 1 27 27 81 i0 _ 4 32 Tryz.underlying27 hi0 hz0 hz1 hz2 rfl (by omega) q' j c' (encQ ((L.take j).map fun v => (⟨s, r, v, d + 1⟩ : Sq))) rfl (some ⟨D.heap.size, 0, none⟩) 1 1 (encQ [⟨s, r, u, d + 1⟩]) (SA.out.rdx 0 rfl) (one_encQ _) (by omega) (by omega)
                have S7 := Lib.hid S'
                refine wpAnyH_ready (rs := [14]) (by kernel_rfl) (by simp) (AllReadyH.cons rfl (fun K hK => ?_) AllReadyH.nil)
                go_simp
                refine hK.out _ _ ⟨(SA.out.blk 3 rfl).cell 0, (SA.out.blk 3 rfl).cell 1, HCU.out _ (SA.out.rdx 2 rfl), (SA.out.blk 4 rfl).cell 3⟩ (fun hHeld => ?_)
                clear hK
                refine wpAnyH_ready (rs := [15]) (by kernel_rfl) (by simp) (AllReadyH.cons rfl (fun K hK => ?_) AllReadyH.nil)
                rw [if_pos (by rfl)]
                refine operwp_append (.tmp 86) (.tmp 100) 27 (by rfl) (by rfl) (by rfl) hrun ?_
                refine hK.out _ _ ⟨(S7.out.blk 3 rfl).cell 0, (S7.out.blk 3 rfl).cell 1, HCU.out _ (S7.out.rdx 2 rfl), (S7.out.blk 4 rfl).cell 3⟩ (fun hHeld => ?_)
                clear hK
                refine wpAnyH_take (i := 16) (v := .slice q7 (j + 1) c7) rfl (by kernel_rfl) (by kernel_rfl) (by kernel_rfl) (noPanic_q _ _) (Or.inl ⟨by kernel_rfl, fun W hSw => by obtain ⟨h1, h2, h3, h4⟩ := hSw; go_simp⟩) hHeld ?_
                refine wpAnyH_done (by kernel_rfl) ?_ _
                refine noPanic_mk ?_
                clear hHeld hrun S'
                try simp [Act.put]
                go_wp2
                go_roundw
                case rel => exact ⟨j + 1, q7, c7, by omega, by go_num, rfl, by rw [HT.out, List.map_append, encQ_append]; exact S7.out.pick [1, 2, 3, 4] (by decide) rfl⟩
                case measure => simp [intOf]; omega
              · obtain rfl : j = L.length := by omega
                rw [List.take_length] at S
                have SH := Lib.hid S; clear S
                go_wp2
                go_ret2
                exact ⟨q', c', rfl, SH.out.pick [0] (by decide) rfl⟩
        · simp only [if_pos hr]
          have e1 : (r == 1) = true := by rw [hr]; rfl
          have HL := Lib.hid hbL.2
          clear hbL hr
          generalize outL true R V v = L at *
          generalize outB true R v = ob at *
          generalize outL true O T v = L0 at *
          generalize outB true O v = ob0 at *
          rcases hk3 with ⟨k3, k4⟩ | k3
          · obtain rfl : k = 3 := by simpa using k3
            clear k3
            go_enter Tryz.func20, Tryz.ntmps20
            go_wp2_with (first | (go_at_call 59; have _t := S2; go_must (refine (HI.out _ S2.out.ext).mono ?_; rintro e w3 ⟨q1, c1, rfl, Z⟩; have S3 := Lib.hid (S2.out.comp Z); clear y0 y1 y2 y3 yz b0 b1 b2 b3 bz a0 a4 az; clear Z e0 e1 e2 ez)) | (go_at_call 58; go_must (refine (HG.out _ S1.out.ext).mono ?_; rintro e w2 ⟨q, c, rfl, Z⟩; have S2 := Lib.hid (S1.out.comp Z); clear y0 y1 y2 y3 yz b0 b1 b2 b3 bz a0 a4 az; have y0 := (S2.out.blk 2 rfl).cell 0; have y1 := (S2.out.blk 2 rfl).cell 1; have y2 := (S2.out.blk 2 rfl).cell 2; have y3 := (S2.out.blk 2 rfl).cell 3; have yz := (S2.out.blk 2 rfl).lt; have b0 := (S2.out.blk 3 rfl).cell 0; have b1 := (S2.out.blk 3 rfl).cell 1; have b2 := (S2.out.blk 3 rfl).cell 2; have b3 := (S2.out.blk 3 rfl).cell 3; have bz := (S2.out.blk 3 rfl).lt; have a0 := (S2.out.blk 4 rfl).cell 0; have a4 := (S2.out.blk 4 rfl).cell 4; have az := (S2.out.blk 4 rfl).lt; have e0 := (S2.out.blk 1 rfl).cell 0; have e1 := (S2.out.blk 1 rfl).cell 1; have e2 := (S2.out.blk 1 rfl).cell 2; have ez := (S2.out.blk 1 rfl).lt; clear Z)) | (go_at_call 57; go_must (refine (HC.out _ S0.out.ext).mono ?_; rintro e w1 ⟨rfl, hb⟩; have S1 := Lib.hid ((S0.out.call hb).al #[.int .i64 s, .int .i64 r, .int .i64 v] 43 w1.heap.size rfl); have S1' := Lib.hid (S0.out.call hb); have y0 := (S1'.out.blk 0 rfl).cell 0; have y1 := (S1'.out.blk 0 rfl).cell 1; have y2 := (S1'.out.blk 0 rfl).cell 2; have y3 := (S1'.out.blk 0 rfl).cell 3; have yz := (S1'.out.blk 0 rfl).lt; have b0 := (S1'.out.blk 1 rfl).cell 0; have b1 := (S1'.out.blk 1 rfl).cell 1; have b2 := (S1'.out.blk 1 rfl).cell 2; have b3 := (S1'.out.blk 1 rfl).cell 3; have bz := (S1'.out.blk 1 rfl).lt; have a0 := (S1'.out.blk 2 rfl).cell 0; have a4 := (S1'.out.blk 2 rfl).cell 4; have az := (S1'.out.blk 2 rfl).lt; clear hb S1')))
            have S9 := Lib.hid ((S3.out.nilrow 81 4).pick [0, 1, 3, 4] (by decide) rfl : Sep w _ [.own 81 4 none 0 0 [], .own 3 1 q1 L.length c1 (encI L), .blk w1.heap.size 43 #[.int .i64 s, .int .i64 r, .int .i64 v], .blk (w.heap.size + 1 + 1) 45 #[.int .i64 s, .int .i64 r, .int .i64 v, .int .i64 d]])
            clear S0 S1 S2 HC HG
            go_loopw [13, 14] (fun m i wr => ∃ (j : Nat) (q' : Option Addr) (c' : Nat), j ≤ L.length ∧ i = .int .i64 j ∧ m = .slice q' j c' ∧ Sep w wr [.own 81 4 q' j c' (encQ ((L.take j).map fun v => (⟨s, r, v, d + 1⟩ : Sq))), .own 3 1 q1 L.length c1 (encI L), .blk w1.heap.size 43 #[.int .i64 s, .int .i64 r, .int .i64 v], .blk (w.heap.size + 1 + 1) 45 #[.int .i64 s, .int .i64 r, .int .i64 v, .int .i64 d]]) (fun _ i _ => L.length - (intOf i).toNat)
            case atStart => exact ⟨0, none, 0, Nat.zero_le _, rfl, rfl, S9.out⟩
            case round =>
              clear S9
              obtain ⟨j, q', c', hj, rfl, rfl, S⟩ := hrel
              by_cases hlt : j < L.length
              · have g1 := (S.rdx 1 rfl).cI hlt
                have pq := (S.rdx 1 rfl).ptr
                have pn := (S.rdx 1 rfl).small
                have HT := Lib.hid (take_succ_nth L j hlt)
                have HCU : Hid (∀ W, Rd W 1 q1 L.length (encI L) → W.cell? (adr q1 j) = some (.int .i64 (nth L j))) := fun W hr => hr.cI hlt
                have d1 : (0:Int) ≤ j := by omega
                have d2 : (j:Int) < L.length := by omega
                have hl := HL.out
                have hwd : IntKind.i64.wrap (d + 1) = d + 1 := IntWalk.i64_in _ (by omega)
                have SH := Lib.hid S; clear S
                generalize nth L j = u at *
                clear g1
                go_wp2
                have k1 : wr.cell? ⟨w1.heap.size, 0, none⟩ = some (.int .i64 s) := (SH.out.blk 2 rfl).cell 0
                have k2 : wr.cell? ⟨w1.heap.size, 1, none⟩ = some (.int .i64 r) := (SH.out.blk 2 rfl).cell 1
                have k3 := HCU.out _ (SH.out.rdx 1 rfl)
                have k4 : wr.cell? ⟨w.heap.size + 1 + 1, 3, none⟩ = some (.int .i64 d) := (SH.out.blk 3 rfl).cell 3
                refine wp_region_noPanic ?_
                refine wp_region_held_drew (S := fun w' => w'.cell? ⟨w1.heap.size, 0, none⟩ = some (.int .i64 s) ∧ w'.cell? ⟨w1.heap.size, 1, none⟩ = some (.int .i64 r) ∧ w'.cell? (adr q1 j) = some (.int .i64 u) ∧ w'.cell? ⟨w.heap.size + 1 + 1, 3, none⟩ = some (.int .i64 d)) (by kernel_rfl) ⟨k1, k2, k3, k4⟩ (fun hHeld => ?_)
                clear k1 k2 k3 k4
                have SD := Lib.hid SH.out.drew
                clear SH
                generalize wr.drew = D at SD hHeld ⊢
                refine wpAnyH_take (i := 0) (v := .slice q' j c') rfl (by kernel_rfl) (by kernel_rfl) (by kernel_rfl) (noPanic_q _ _) (Or.inl ⟨by kernel_rfl, fun W hSw => by obtain ⟨h1, h2, h3, h4⟩ := hSw; go_simp⟩) hHeld ?_
                refine wpAnyH_take (i := 1) (v := .pointer (some ⟨w1.heap.size, 0, none⟩)) rfl (by kernel_rfl) (by kernel_rfl) (by kernel_rfl) (noPanic_q _ _) (Or.inl ⟨by kernel_rfl, fun W hSw => by obtain ⟨h1, h2, h3, h4⟩ := hSw; go_simp⟩) hHeld ?_
                refine wpAnyH_take (i := 2) (v := .int .i64 s) rfl (by kernel_rfl) (by kernel_rfl) (by kernel_rfl) (noPanic_q _ _) (Or.inl ⟨by kernel_rfl, fun W hSw => by obtain ⟨h1, h2, h3, h4⟩ := hSw; go_simp⟩) hHeld ?_
                refine wpAnyH_take (i := 3) (v := .pointer (some ⟨w1.heap.size, 1, none⟩)) rfl (by kernel_rfl) (by kernel_rfl) (by kernel_rfl) (noPanic_q _ _) (Or.inl ⟨by kernel_rfl, fun W hSw => by obtain ⟨h1, h2, h3, h4⟩ := hSw; go_simp⟩) hHeld ?_
                refine wpAnyH_take (i := 4) (v := .int .i64 r) rfl (by kernel_rfl) (by kernel_rfl) (by kernel_rfl) (noPanic_q _ _) (Or.inl ⟨by kernel_rfl, fun W hSw => by obtain ⟨h1, h2, h3, h4⟩ := hSw; go_simp⟩) hHeld ?_
                refine wpAnyH_take (i := 5) (v := .slice q1 L.length c1) rfl (by kernel_rfl) (by kernel_rfl) (by kernel_rfl) (noPanic_q _ _) (Or.inl ⟨by kernel_rfl, fun W hSw => by obtain ⟨h1, h2, h3, h4⟩ := hSw; go_simp⟩) hHeld ?_
                refine wpAnyH_take (i := 6) (v := .int .i64 (j:Int)) rfl (by kernel_rfl) (by kernel_rfl) (by kernel_rfl) (noPanic_q _ _) (Or.inl ⟨by kernel_rfl, fun W hSw => by obtain ⟨h1, h2, h3, h4⟩ := hSw; go_simp⟩) hHeld ?_
                refine wpAnyH_take (i := 7) (v := .pointer (some (adr q1 j))) rfl (by kernel_rfl) (by kernel_rfl) (by kernel_rfl) (noPanic_q _ _) (Or.inl ⟨by kernel_rfl, fun W hSw => by obtain ⟨h1, h2, h3, h4⟩ := hSw; go_simp⟩) hHeld ?_
                refine wpAnyH_take (i := 8) (v := .int .i64 u) rfl (by kernel_rfl) (by kernel_rfl) (by kernel_rfl) (noPanic_q _ _) (Or.inl ⟨by kernel_rfl, fun W hSw => by obtain ⟨h1, h2, h3, h4⟩ := hSw; go_simp⟩) hHeld ?_
                refine wpAnyH_take (i := 9) (v := .agg #[.int .i64 s, .int .i64 r, .int .i64 u]) rfl (by kernel_rfl) (by kernel_rfl) (by kernel_rfl) (noPanic_q _ _) (Or.inl ⟨by kernel_rfl, fun W hSw => by obtain ⟨h1, h2, h3, h4⟩ := hSw; go_simp⟩) hHeld ?_
                refine wpAnyH_take (i := 10) (v := .pointer (some ⟨w.heap.size + 1 + 1, 3, none⟩)) rfl (by kernel_rfl) (by kernel_rfl) (by kernel_rfl) (noPanic_q _ _) (Or.inl ⟨by kernel_rfl, fun W hSw => by obtain ⟨h1, h2, h3, h4⟩ := hSw; go_simp⟩) hHeld ?_
                refine wpAnyH_take (i := 11) (v := .int .i64 d) rfl (by kernel_rfl) (by kernel_rfl) (by kernel_rfl) (noPanic_q _ _) (Or.inl ⟨by kernel_rfl, fun W hSw => by obtain ⟨h1, h2, h3, h4⟩ := hSw; go_simp⟩) hHeld ?_
                refine wpAnyH_take (i := 12) (v := .int .i64 (d + 1)) rfl (by kernel_rfl) (by kernel_rfl) (by kernel_rfl) (noPanic_q _ _) (Or.inl ⟨by kernel_rfl, fun W hSw => by obtain ⟨h1, h2, h3, h4⟩ := hSw; go_simp⟩) hHeld ?_
                refine wpAnyH_take (i := 13) (v := .agg #[.int .i64 s, .int .i64 r, .int .i64 u, .int .i64 (d + 1)]) rfl (by kernel_rfl) (by kernel_rfl) (by kernel_rfl) (noPanic_q _ _) (Or.inl ⟨by kernel_rfl, fun W hSw => by obtain ⟨h1, h2, h3, h4⟩ := hSw; go_simp⟩) hHeld ?_
                have SA := Lib.hid (SD.out.alrw #[.int .i64 s, .int .i64 r, .int .i64 u, .int .i64 (d + 1)] 81 4 1 D.heap.size rfl (by decide) rfl)
                obtain ⟨q7, c7, w7, hrun, S'⟩ := SA.out.appended 1 27 27 81 i0 _ 4 32 Tryz.underlying27 hi0 hz0 hz1 hz2 rfl (by omega) q' j c' (encQ ((L.take j).map fun v => (⟨s, r, v, d + 1⟩ : Sq))) rfl (some ⟨D.heap.size, 0, none⟩) 1 1 (encQ [⟨s, r, u, d + 1⟩]) (SA.out.rdx 0 rfl) (one_encQ _) (by omega) (by omega)
                have S7 := Lib.hid S'
                refine wpAnyH_ready (rs := [14]) (by kernel_rfl) (by simp) (AllReadyH.cons rfl (fun K hK => ?_) AllReadyH.nil)
                go_simp
                refine hK.out _ _ ⟨(SA.out.blk 3 rfl).cell 0, (SA.out.blk 3 rfl).cell 1, HCU.out _ (SA.out.rdx 2 rfl), (SA.out.blk 4 rfl).cell 3⟩ (fun hHeld => ?_)
                clear hK
                refine wpAnyH_ready (rs := [15]) (by kernel_rfl) (by simp) (AllReadyH.cons rfl (fun K hK => ?_) AllReadyH.nil)
                rw [if_pos (by rfl)]
                refine operwp_append (.tmp 86) (.tmp 100) 27 (by rfl) (by rfl) (by rfl) hrun ?_
                refine hK.out _ _ ⟨(S7.out.blk 3 rfl).cell 0, (S7.out.blk 3 rfl).cell 1, HCU.out _ (S7.out.rdx 2 rfl), (S7.out.blk 4 rfl).cell 3⟩ (fun hHeld => ?_)
                clear hK
                refine wpAnyH_take (i := 16) (v := .slice q7 (j + 1) c7) rfl (by kernel_rfl) (by kernel_rfl) (by kernel_rfl) (noPanic_q _ _) (Or.inl ⟨by kernel_rfl, fun W hSw => by obtain ⟨h1, h2, h3, h4⟩ := hSw; go_simp⟩) hHeld ?_
                refine wpAnyH_done (by kernel_rfl) ?_ _
                refine noPanic_mk ?_
                clear hHeld hrun S'
                try simp [Act.put]
                go_wp2
                go_roundw
                case rel => exact ⟨j + 1, q7, c7, by omega, by go_num, rfl, by rw [HT.out, List.map_append, encQ_append]; exact S7.out.pick [1, 2, 3, 4] (by decide) rfl⟩
                case measure => simp [intOf]; omega
              · obtain rfl : j = L.length := by omega
                rw [List.take_length] at S
                have SH := Lib.hid S; clear S
                go_wp2
                go_ret2
                exact ⟨q', c', rfl, SH.out.pick [0] (by decide) rfl⟩
          · go_enter Tryz.func20, Tryz.ntmps20
            go_wp2_with (first | (go_at_call 59; have _t := S2; go_must (refine (HI.out _ S2.out.ext).mono ?_; rintro e w3 ⟨q1, c1, rfl, Z⟩; have S3 := Lib.hid (S2.out.comp Z); clear y0 y1 y2 y3 yz b0 b1 b2 b3 bz a0 a4 az; clear Z e0 e1 e2 ez)) | (go_at_call 58; go_must (refine (HG.out _ S1.out.ext).mono ?_; rintro e w2 ⟨q, c, rfl, Z⟩; have S2 := Lib.hid (S1.out.comp Z); clear y0 y1 y2 y3 yz b0 b1 b2 b3 bz a0 a4 az; have y0 := (S2.out.blk 2 rfl).cell 0; have y1 := (S2.out.blk 2 rfl).cell 1; have y2 := (S2.out.blk 2 rfl).cell 2; have y3 := (S2.out.blk 2 rfl).cell 3; have yz := (S2.out.blk 2 rfl).lt; have b0 := (S2.out.blk 3 rfl).cell 0; have b1 := (S2.out.blk 3 rfl).cell 1; have b2 := (S2.out.blk 3 rfl).cell 2; have b3 := (S2.out.blk 3 rfl).cell 3; have bz := (S2.out.blk 3 rfl).lt; have a0 := (S2.out.blk 4 rfl).cell 0; have a4 := (S2.out.blk 4 rfl).cell 4; have az := (S2.out.blk 4 rfl).lt; have e0 := (S2.out.blk 1 rfl).cell 0; have e1 := (S2.out.blk 1 rfl).cell 1; have e2 := (S2.out.blk 1 rfl).cell 2; have ez := (S2.out.blk 1 rfl).lt; clear Z)) | (go_at_call 57; go_must (refine (HC.out _ S0.out.ext).mono ?_; rintro e w1 ⟨rfl, hb⟩; have S1 := Lib.hid ((S0.out.call hb).al #[.int .i64 s, .int .i64 r, .int .i64 v] 43 w1.heap.size rfl); have S1' := Lib.hid (S0.out.call hb); have y0 := (S1'.out.blk 0 rfl).cell 0; have y1 := (S1'.out.blk 0 rfl).cell 1; have y2 := (S1'.out.blk 0 rfl).cell 2; have y3 := (S1'.out.blk 0 rfl).cell 3; have yz := (S1'.out.blk 0 rfl).lt; have b0 := (S1'.out.blk 1 rfl).cell 0; have b1 := (S1'.out.blk 1 rfl).cell 1; have b2 := (S1'.out.blk 1 rfl).cell 2; have b3 := (S1'.out.blk 1 rfl).cell 3; have bz := (S1'.out.blk 1 rfl).lt; have a0 := (S1'.out.blk 2 rfl).cell 0; have a4 := (S1'.out.blk 2 rfl).cell 4; have az := (S1'.out.blk 2 rfl).lt; clear hb S1')))
            have S9 := Lib.hid ((S3.out.nilrow 81 4).pick [0, 1, 3, 4] (by decide) rfl : Sep w _ [.own 81 4 none 0 0 [], .own 3 1 q1 L.length c1 (encI L), .blk w1.heap.size 43 #[.int .i64 s, .int .i64 r, .int .i64 v], .blk (w.heap.size + 1 + 1) 45 #[.int .i64 s, .int .i64 r, .int .i64 v, .int .i64 d]])
            clear S0 S1 S2 HC HG
            go_loopw [13, 14] (fun m i wr => ∃ (j : Nat) (q' : Option Addr) (c' : Nat), j ≤ L.length ∧ i = .int .i64 j ∧ m = .slice q' j c' ∧ Sep w wr [.own 81 4 q' j c' (encQ ((L.take j).map fun v => (⟨s, r, v, d + 1⟩ : Sq))), .own 3 1 q1 L.length c1 (encI L), .blk w1.heap.size 43 #[.int .i64 s, .int .i64 r, .int .i64 v], .blk (w.heap.size + 1 + 1) 45 #[.int .i64 s, .int .i64 r, .int .i64 v, .int .i64 d]]) (fun _ i _ => L.length - (intOf i).toNat)
            case atStart => exact ⟨0, none, 0, Nat.zero_le _, rfl, rfl, S9.out⟩
            case round =>
              clear S9
              obtain ⟨j, q', c', hj, rfl, rfl, S⟩ := hrel
              by_cases hlt : j < L.length
              · have g1 := (S.rdx 1 rfl).cI hlt
                have pq := (S.rdx 1 rfl).ptr
                have pn := (S.rdx 1 rfl).small
                have HT := Lib.hid (take_succ_nth L j hlt)
                have HCU : Hid (∀ W, Rd W 1 q1 L.length (encI L) → W.cell? (adr q1 j) = some (.int .i64 (nth L j))) := fun W hr => hr.cI hlt
                have d1 : (0:Int) ≤ j := by omega
                have d2 : (j:Int) < L.length := by omega
                have hl := HL.out
                have hwd : IntKind.i64.wrap (d + 1) = d + 1 := IntWalk.i64_in _ (by omega)
                have SH := Lib.hid S; clear S
                generalize nth L j = u at *
                clear g1
                go_wp2
                have k1 : wr.cell? ⟨w1.heap.size, 0, none⟩ = some (.int .i64 s) := (SH.out.blk 2 rfl).cell 0
                have k2 : wr.cell? ⟨w1.heap.size, 1, none⟩ = some (.int .i64 r) := (SH.out.blk 2 rfl).cell 1
                have k3 := HCU.out _ (SH.out.rdx 1 rfl)
                have k4 : wr.cell? ⟨w.heap.size + 1 + 1, 3, none⟩ = some (.int .i64 d) := (SH.out.blk 3 rfl).cell 3
                refine wp_region_noPanic ?_
                refine wp_region_held_drew (S := fun w' => w'.cell? ⟨w1.heap.size, 0, none⟩ = some (.int .i64 s) ∧ w'.cell? ⟨w1.heap.size, 1, none⟩ = some (.int .i64 r) ∧ w'.cell? (adr q1 j) = some (.int .i64 u) ∧ w'.cell? ⟨w.heap.size + 1 + 1, 3, none⟩ = some (.int .i64 d)) (by kernel_rfl) ⟨k1, k2, k3, k4⟩ (fun hHeld => ?_)
                clear k1 k2 k3 k4
                have SD := Lib.hid SH.out.drew
                clear SH
                generalize wr.drew = D at SD hHeld ⊢
                refine wpAnyH_take (i := 0) (v := .slice q' j c') rfl (by kernel_rfl) (by kernel_rfl) (by kernel_rfl) (noPanic_q _ _) (Or.inl ⟨by kernel_rfl, fun W hSw => by obtain ⟨h1, h2, h3, h4⟩ := hSw; go_simp⟩) hHeld ?_
                refine wpAnyH_take (i := 1) (v := .pointer (some ⟨w1.heap.size, 0, none⟩)) rfl (by kernel_rfl) (by kernel_rfl) (by kernel_rfl) (noPanic_q _ _) (Or.inl ⟨by kernel_rfl, fun W hSw => by obtain ⟨h1, h2, h3, h4⟩ := hSw; go_simp⟩) hHeld ?_
                refine wpAnyH_take (i := 2) (v := .int .i64 s) rfl (by kernel_rfl) (by kernel_rfl) (by kernel_rfl) (noPanic_q _ _) (Or.inl ⟨by kernel_rfl, fun W hSw => by obtain ⟨h1, h2, h3, h4⟩ := hSw; go_simp⟩) hHeld ?_
                refine wpAnyH_take (i := 3) (v := .pointer (some ⟨w1.heap.size, 1, none⟩)) rfl (by kernel_rfl) (by kernel_rfl) (by kernel_rfl) (noPanic_q _ _) (Or.inl ⟨by kernel_rfl, fun W hSw => by obtain ⟨h1, h2, h3, h4⟩ := hSw; go_simp⟩) hHeld ?_
                refine wpAnyH_take (i := 4) (v := .int .i64 r) rfl (by kernel_rfl) (by kernel_rfl) (by kernel_rfl) (noPanic_q _ _) (Or.inl ⟨by kernel_rfl, fun W hSw => by obtain ⟨h1, h2, h3, h4⟩ := hSw; go_simp⟩) hHeld ?_
                refine wpAnyH_take (i := 5) (v := .slice q1 L.length c1) rfl (by kernel_rfl) (by kernel_rfl) (by kernel_rfl) (noPanic_q _ _) (Or.inl ⟨by kernel_rfl, fun W hSw => by obtain ⟨h1, h2, h3, h4⟩ := hSw; go_simp⟩) hHeld ?_
                refine wpAnyH_take (i := 6) (v := .int .i64 (j:Int)) rfl (by kernel_rfl) (by kernel_rfl) (by kernel_rfl) (noPanic_q _ _) (Or.inl ⟨by kernel_rfl, fun W hSw => by obtain ⟨h1, h2, h3, h4⟩ := hSw; go_simp⟩) hHeld ?_
                refine wpAnyH_take (i := 7) (v := .pointer (some (adr q1 j))) rfl (by kernel_rfl) (by kernel_rfl) (by kernel_rfl) (noPanic_q _ _) (Or.inl ⟨by kernel_rfl, fun W hSw => by obtain ⟨h1, h2, h3, h4⟩ := hSw; go_simp⟩) hHeld ?_
                refine wpAnyH_take (i := 8) (v := .int .i64 u) rfl (by kernel_rfl) (by kernel_rfl) (by kernel_rfl) (noPanic_q _ _) (Or.inl ⟨by kernel_rfl, fun W hSw => by obtain ⟨h1, h2, h3, h4⟩ := hSw; go_simp⟩) hHeld ?_
                refine wpAnyH_take (i := 9) (v := .agg #[.int .i64 s, .int .i64 r, .int .i64 u]) rfl (by kernel_rfl) (by kernel_rfl) (by kernel_rfl) (noPanic_q _ _) (Or.inl ⟨by kernel_rfl, fun W hSw => by obtain ⟨h1, h2, h3, h4⟩ := hSw; go_simp⟩) hHeld ?_
                refine wpAnyH_take (i := 10) (v := .pointer (some ⟨w.heap.size + 1 + 1, 3, none⟩)) rfl (by kernel_rfl) (by kernel_rfl) (by kernel_rfl) (noPanic_q _ _) (Or.inl ⟨by kernel_rfl, fun W hSw => by obtain ⟨h1, h2, h3, h4⟩ := hSw; go_simp⟩) hHeld ?_
                refine wpAnyH_take (i := 11) (v := .int .i64 d) rfl (by kernel_rfl) (by kernel_rfl) (by kernel_rfl) (noPanic_q _ _) (Or.inl ⟨by kernel_rfl, fun W hSw => by obtain ⟨h1, h2, h3, h4⟩ := hSw; go_simp⟩) hHeld ?_
                refine wpAnyH_take (i := 12) (v := .int .i64 (d + 1)) rfl (by kernel_rfl) (by kernel_rfl) (by kernel_rfl) (noPanic_q _ _) (Or.inl ⟨by kernel_rfl, fun W hSw => by obtain ⟨h1, h2, h3, h4⟩ := hSw; go_simp⟩) hHeld ?_
                refine wpAnyH_take (i := 13) (v := .agg #[.int .i64 s, .int .i64 r, .int .i64 u, .int .i64 (d + 1)]) rfl (by kernel_rfl) (by kernel_rfl) (by kernel_rfl) (noPanic_q _ _) (Or.inl ⟨by kernel_rfl, fun W hSw => by obtain ⟨h1, h2, h3, h4⟩ := hSw; go_simp⟩) hHeld ?_
                have SA := Lib.hid (SD.out.alrw #[.int .i64 s, .int .i64 r, .int .i64 u, .int .i64 (d + 1)] 81 4 1 D.heap.size rfl (by decide) rfl)
                obtain ⟨q7, c7, w7, hrun, S'⟩ := SA.out.appended 1 27 27 81 i0 _ 4 32 Tryz.underlying27 hi0 hz0 hz1 hz2 rfl (by omega) q' j c' (encQ ((L.take j).map fun v => (⟨s, r, v, d + 1⟩ : Sq))) rfl (some ⟨D.heap.size, 0, none⟩) 1 1 (encQ [⟨s, r, u, d + 1⟩]) (SA.out.rdx 0 rfl) (one_encQ _) (by omega) (by omega)
                have S7 := Lib.hid S'
                refine wpAnyH_ready (rs := [14]) (by kernel_rfl) (by simp) (AllReadyH.cons rfl (fun K hK => ?_) AllReadyH.nil)
                go_simp
                refine hK.out _ _ ⟨(SA.out.blk 3 rfl).cell 0, (SA.out.blk 3 rfl).cell 1, HCU.out _ (SA.out.rdx 2 rfl), (SA.out.blk 4 rfl).cell 3⟩ (fun hHeld => ?_)
                clear hK
                refine wpAnyH_ready (rs := [15]) (by kernel_rfl) (by simp) (AllReadyH.cons rfl (fun K hK => ?_) AllReadyH.nil)
                rw [if_pos (by rfl)]
                refine operwp_append (.tmp 86) (.tmp 100) 27 (by rfl) (by rfl) (by rfl) hrun ?_
                refine hK.out _ _ ⟨(S7.out.blk 3 rfl).cell 0, (S7.out.blk 3 rfl).cell 1, HCU.out _ (S7.out.rdx 2 rfl), (S7.out.blk 4 rfl).cell 3⟩ (fun hHeld => ?_)
                clear hK
                refine wpAnyH_take (i := 16) (v := .slice q7 (j + 1) c7) rfl (by kernel_rfl) (by kernel_rfl) (by kernel_rfl) (noPanic_q _ _) (Or.inl ⟨by kernel_rfl, fun W hSw => by obtain ⟨h1, h2, h3, h4⟩ := hSw; go_simp⟩) hHeld ?_
                refine wpAnyH_done (by kernel_rfl) ?_ _
                refine noPanic_mk ?_
                clear hHeld hrun S'
                try simp [Act.put]
                go_wp2
                go_roundw
                case rel => exact ⟨j + 1, q7, c7, by omega, by go_num, rfl, by rw [HT.out, List.map_append, encQ_append]; exact S7.out.pick [1, 2, 3, 4] (by decide) rfl⟩
                case measure => simp [intOf]; omega
              · obtain rfl : j = L.length := by omega
                rw [List.take_length] at S
                have SH := Lib.hid S; clear S
                go_wp2
                go_ret2
                exact ⟨q', c', rfl, SH.out.pick [0] (by decide) rfl⟩
end Go.Proofs.YtkekibnhmfmhmaaGreat
/- The document's example rows. -/
namespace Go.Proofs.YtkekibnhmfmhmaaGreat
open Go Go.RowKit
def exE3 : List (Int × Int) := [(0, 1), (0, 2), (2, 1)]
def exO : List Int := [0, 2, 2, 3]
def exT : List Int := [1, 2, 1]
def exR : List Int := [0, 0, 2, 3]
def exV : List Int := [0, 2, 0]
theorem exI3 : isB 3 exE3 [[], [], []] = true := by decide
theorem exO_eq : offL 3 exE3 = exO := by decide
theorem exT_eq : toL exE3 = exT := by decide
theorem exR_eq : offL 3 (turnE exE3) = exR := by decide
theorem exV_eq : toL (turnE exE3) = exV := by decide
theorem exCk : checkR exO exT exR exV = true := by decide
theorem exIn : outL true exR exV 1 = [0, 2] ∧ outB true exR 1 = true := by decide
theorem exH1 : hasB true exO exT 0 2 = true := by decide
theorem exH2 : hasB true exO exT 1 0 = false := by decide
theorem exI0 : isB 0 [] [] = false := by decide
/-- four slices are read -/
structure R4 (w : World) (po : Option Addr) (no : Nat) (pt : Option Addr) (nt : Nat) (pr : Option Addr) (nr : Nat) (pv : Option Addr) (nv : Nat) (O T R V : List Int) : Prop where
  o : Rd w 1 po no (encI O)
  t : Rd w 1 pt nt (encI T)
  r : Rd w 1 pr nr (encI R)
  v : Rd w 1 pv nv (encI V)
theorem R4.ext {w w' : World} {po : Option Addr} {no : Nat} {pt : Option Addr} {nt : Nat} {pr : Option Addr} {nr : Nat} {pv : Option Addr} {nv : Nat} {O T R V : List Int} (h : R4 w po no pt nt pr nr pv nv O T R V) (he : Ext w w') : R4 w' po no pt nt pr nr pv nv O T R V := ⟨h.o.ext he, h.t.ext he, h.r.ext he, h.v.ext he⟩
theorem exMk3 (w : World) : Calls Tryz.prog 73 #[.agg #[.int .i64 3, .slice (some ⟨w.heap.size, 0, none⟩) 3 3, .slice (some ⟨w.heap.size + 1, 0, none⟩) 3 3]] ((w.alloc (.cells #[.int .i64 0, .int .i64 1, .int .i64 0, .int .i64 2, .int .i64 2, .int .i64 1] 108)).alloc (.cells #[.slice none 0 0, .slice none 0 0, .slice none 0 0] 22)) fun e w' =>
    ∃ po no co pt nt ct pr nr cr pv nv cv, e = .returned (.tuple #[.agg #[.slice po no co, .slice pt nt ct, .slice pr nr cr, .slice pv nv cv], .int .i64 0]) ∧ R4 w' po no pt nt pr nr pv nv exO exT exR exV ∧ nt ≤ ct ∧ nv ≤ cv ∧ Ext w w' := by
  obtain ⟨a1, a2, a3⟩ := alloc2B w #[.int .i64 0, .int .i64 1, .int .i64 0, .int .i64 2, .int .i64 2, .int .i64 1] #[.slice none 0 0, .slice none 0 0, .slice none 0 0] 108 22
  generalize ((w.alloc (.cells #[.int .i64 0, .int .i64 1, .int .i64 0, .int .i64 2, .int .i64 2, .int .i64 1] 108)).alloc (.cells #[.slice none 0 0, .slice none 0 0, .slice none 0 0] 22)) = W at *
  have h1 : Rd W 2 (some ⟨w.heap.size, 0, none⟩) 3 (encE exE3) := a1.rd rfl rfl (by decide)
  have h2 : RdW W (some ⟨w.heap.size + 1, 0, none⟩) 3 [⟨none, 0, 0⟩, ⟨none, 0, 0⟩, ⟨none, 0, 0⟩] [[], [], []] := ⟨rfl, a2.rd rfl rfl (by decide), fun j hj => by
    have : j = 0 ∨ j = 1 ∨ j = 2 := by omega
    rcases this with rfl | rfl | rfl <;> exact Rd.nil _ _ _⟩
  have hz : SzW [[], [], []] := fun l hl s hs => by simp at hl; subst hl; cases hs
  refine (RMakeG_yes 3 _ 3 3 _ 3 3 exE3 _ _ W h1 h2 hz exI3).mono ?_
  rintro e w' ⟨v, rfl, ⟨po, no, co, pt, nt, ct, pr, nr, cr, pv, nv, cv, rfl, k1, k2, k3, k4, k5, k6, k7, k8⟩, hb⟩
  rw [exO_eq] at k1
  rw [exT_eq] at k2
  rw [exR_eq] at k3
  rw [exV_eq] at k4
  exact ⟨po, no, co, pt, nt, ct, pr, nr, cr, pv, nv, cv, rfl, ⟨k1, k2, k3, k4⟩, k6, k8, Ext.trans a3 hb⟩
theorem exMk0 (w : World) : Calls Tryz.prog 73 #[.agg #[.int .i64 0, .slice none 0 0, .slice none 0 0]] w fun e w' => e = .returned (.tuple #[.agg #[.slice none 0 0, .slice none 0 0, .slice none 0 0, .slice none 0 0], .int .i64 20]) ∧ Ext w w' :=
  RMakeG_no 0 none 0 0 none 0 0 [] [] [] w (Rd.nil _ _ _) ⟨rfl, Rd.nil _ _ _, fun j hj => by omega⟩ (fun l hl => nomatch hl) exI0
section
variable (po : Option Addr) (no co : Nat) (pt : Option Addr) (nt ct : Nat) (pr : Option Addr) (nr cr : Nat) (pv : Option Addr) (nv cv : Nat) (w : World) (h : R4 w po no pt nt pr nr pv nv exO exT exR exV) (hct : nt ≤ ct) (hcv : nv ≤ cv)
include h hct hcv
theorem exInG : Calls Tryz.prog 55 #[.agg #[.slice po no co, .slice pt nt ct, .slice pr nr cr, .slice pv nv cv], .int .i64 1] w fun e w' => ∃ q c, e = .returned (.tuple #[.slice q 2 c, .bool true]) ∧ Rd w' 1 q 2 (encI [0, 2]) ∧ Ext w w' := by
  have := InG po no co exO pt nt ct exT pr nr cr exR pv nv cv exV w 1 h.o h.t h.r h.v hct hcv
  rw [exCk, exIn.1, exIn.2] at this
  exact this.mono fun e w' ⟨q, c, h1, S⟩ => ⟨q, c, h1, S.rd 0 rfl (by decide), S.ext⟩
theorem exCkG : Calls Tryz.prog 56 #[.agg #[.slice po no co, .slice pt nt ct, .slice pr nr cr, .slice pv nv cv]] w fun e w' => e = .returned (.bool true) ∧ Ext w w' := by
  have := CheckR po no co exO pt nt ct exT pr nr cr exR pv nv cv exV w h.o h.t h.r h.v hct hcv
  rwa [exCk] at this
end
/-- the example's rows where they lie -/
theorem exWant4 (w : World) (cs : Array Value) : ∃ X, X = (((((w.alloc (.cells cs 41)).alloc (.cells #[.int .i64 0, .int .i64 2, .int .i64 2, .int .i64 3] 3)).alloc (.cells #[.int .i64 1, .int .i64 2, .int .i64 1] 3)).alloc (.cells #[.int .i64 0, .int .i64 0, .int .i64 2, .int .i64 3] 3)).alloc (.cells #[.int .i64 0, .int .i64 2, .int .i64 0] 3)) ∧
    Sep w X [.blk w.heap.size 41 cs] ∧ X.heap.size = w.heap.size + 1 + 1 + 1 + 1 + 1 ∧
    R4 X (some ⟨w.heap.size + 1, 0, none⟩) 4 (some ⟨w.heap.size + 1 + 1, 0, none⟩) 3 (some ⟨w.heap.size + 1 + 1 + 1, 0, none⟩) 4 (some ⟨w.heap.size + 1 + 1 + 1 + 1, 0, none⟩) 3 exO exT exR exV := by
  have S := (((((Sep.start w).al cs 41 w.heap.size rfl).al #[.int .i64 0, .int .i64 2, .int .i64 2, .int .i64 3] 3 (w.heap.size + 1) (by simp)).al #[.int .i64 1, .int .i64 2, .int .i64 1] 3 (w.heap.size + 1 + 1) (by simp)).al #[.int .i64 0, .int .i64 0, .int .i64 2, .int .i64 3] 3 (w.heap.size + 1 + 1 + 1) (by simp)).al #[.int .i64 0, .int .i64 2, .int .i64 0] 3 (w.heap.size + 1 + 1 + 1 + 1) (by simp)
  exact ⟨_, rfl, S.pick [4] (by decide) rfl, by simp, (S.blk 3 rfl).rd rfl rfl (by decide), (S.blk 2 rfl).rd rfl rfl (by decide), (S.blk 1 rfl).rd rfl rfl (by decide), (S.blk 0 rfl).rd rfl rfl (by decide)⟩
end Go.Proofs.YtkekibnhmfmhmaaGreat
/- The program's Edges of rows. -/
namespace Go.Proofs.YtkekibnhmfmhmaaGreat
open Go Go.RowKit Go.Shelf Go.Lib
attribute [local go_sem] Oper.semAt_some
def edgL (b : Bool) (O T : List Int) : List (Int × Int) := if b = true then pairs O T else []
def edgC (b : Bool) : Int := if b = true then 0 else 40
def edgPc (a b : Nat) (po : Option Addr) (no co : Nat) (pt : Option Addr) (nt ct : Nat) (cs : Array Value) (q : Option Addr) (c : Nat) (l : List (Int × Int)) : List Pc :=
  [.blk (b + 1 + 1) 39 #[.slice pt nt ct], .blk (b + 1) 39 #[.slice po no co], .blk b 109 #[.slice q l.length c], .blk a 41 cs, .own 108 2 q l.length c (encE l)]
theorem edgPc_cells (a b : Nat) (po : Option Addr) (no co : Nat) (pt : Option Addr) (nt ct : Nat) (cs : Array Value) (q : Option Addr) (c : Nat) (l : List (Int × Int)) : ∀ x ∈ edgPc a b po no co pt nt ct cs q c l, x.cells :=
  cells_all fun x hx => by simp [edgPc] at hx; rcases hx with h | h | h | h | h <;> first | exact .inl ⟨_, _, _, h⟩ | exact .inr ⟨_, _, _, _, _, _, h⟩
theorem pairs_len {O T : List Int} (h : OffOk O T) (h0 : nth O 0 = 0) : ∀ k, k < O.length → (pairsK O T k).length = (nth O k).toNat
  | 0, _ => by rw [h0]; rfl
  | k + 1, hk => by
    rw [pairsK_step, List.length_append, pairs_len h h0 k (by omega)]
    unfold rowX
    rw [List.length_map, rowL_len h hk]
    have := h.le k hk
    have := h.lo k (by omega)
    omega
end Go.Proofs.YtkekibnhmfmhmaaGreat
/- The reference's Edges and Own of rows. -/
namespace Go.Proofs.YtkekibnhmfmhmaaGreat
open Go Go.RowKit
def OwnQ (b : Nat) (no nt nr nv : Nat) (O T R V : List Int) (i : Nat) (v : Value) (W : World) : Prop :=
  match i with
  | 2 => ∃ q d, v = .slice q no d ∧ W.ownsRow b 3 1 (.slice q no d) no (encI O)
  | 5 => ∃ q d, v = .slice q nt d ∧ W.ownsRow b 3 1 (.slice q nt d) nt (encI T)
  | 8 => ∃ q d, v = .slice q nr d ∧ W.ownsRow b 3 1 (.slice q nr d) nr (encI R)
  | 11 => ∃ q d, v = .slice q nv d ∧ W.ownsRow b 3 1 (.slice q nv d) nv (encI V)
  | _ => True
theorem OwnQ_mono {b no nt nr nv : Nat} {O T R V : List Int} : ∀ i v W W', Ext W W' → OwnQ b no nt nr nv O T R V i v W → OwnQ b no nt nr nv O T R V i v W' := by
  intro i v W W' he h
  unfold OwnQ at *
  split at h <;> first | trivial | (obtain ⟨q, c, h1, h2⟩ := h; exact ⟨q, c, h1, he.own h2⟩)
set_option maxRecDepth 100000 in
set_option maxHeartbeats 4000000 in
theorem Own04 (po : Option Addr) (no co : Nat) (O : List Int) (pt : Option Addr) (nt ct : Nat) (T : List Int) (pr : Option Addr) (nr cr : Nat) (R : List Int) (pv : Option Addr) (nv cv : Nat) (V : List Int) (w : World) (hO : Rd w 1 po no (encI O)) (hT : Rd w 1 pt nt (encI T)) (hR : Rd w 1 pr nr (encI R)) (hV : Rd w 1 pv nv (encI V)) (b1 : no ≤ 100000) (b2 : nt ≤ 100000) (b3 : nr ≤ 100000) (b4 : nv ≤ 100000) :
    Calls Tryz.prog 18 #[.agg #[.slice po no co, .slice pt nt ct, .slice pr nr cr, .slice pv nv cv]] w fun e w' => ∃ qo do' qt dt qr dr qv dv, e = .returned (.agg #[.slice qo no do', .slice qt nt dt, .slice qr nr dr, .slice qv nv dv]) ∧ R4 w' qo no qt nt qr nr qv nv O T R V ∧ nt ≤ dt ∧ nv ≤ dv ∧ Ext w w' := by
  have HO := Lib.hid (fun W1 (h : Ext w W1) => OwnI01 po no co O W1 (hO.ext h) (by omega))
  have HT := Lib.hid (fun W1 (h : Ext w W1) => OwnI01 pt nt ct T W1 (hT.ext h) (by omega))
  have HR := Lib.hid (fun W1 (h : Ext w W1) => OwnI01 pr nr cr R W1 (hR.ext h) (by omega))
  have HV := Lib.hid (fun W1 (h : Ext w W1) => OwnI01 pv nv cv V W1 (hV.ext h) (by omega))
  have D1 := Lib.hid b1
  have D2 := Lib.hid b2
  have D3 := Lib.hid b3
  have D4 := Lib.hid b4
  obtain ⟨X, hX⟩ : ∃ X, X = (w.alloc (.cells #[.slice po no co, .slice pt nt ct, .slice pr nr cr, .slice pv nv cv] 41)).alloc (.cells #[.slice none 0 0, .slice none 0 0, .slice none 0 0, .slice none 0 0] 41) := ⟨_, rfl⟩
  have S0 := Lib.hid (hX ▸ (((Sep.start w).al #[.slice po no co, .slice pt nt ct, .slice pr nr cr, .slice pv nv cv] 41 w.heap.size rfl).al #[.slice none 0 0, .slice none 0 0, .slice none 0 0, .slice none 0 0] 41 (w.heap.size + 1) (by simp)) : Sep w X _)
  clear hO hT hR hV b1 b2 b3 b4
  go_enter Tryz.func18, Tryz.ntmps18
  go_wp2
  rw [← hX]
  clear hX
  have az := (S0.out.blk 1 rfl).lt; have a0 := (S0.out.blk 1 rfl).cell 0; have a1 := (S0.out.blk 1 rfl).cell 1; have a2 := (S0.out.blk 1 rfl).cell 2; have a3 := (S0.out.blk 1 rfl).cell 3
  have x0 := fun x : ExtOf X => x.ext.cell a0
  have x1 := fun x : ExtOf X => x.ext.cell a1
  have x2 := fun x : ExtOf X => x.ext.cell a2
  have x3 := fun x : ExtOf X => x.ext.cell a3
  refine wp_region_mix [true, true, false, true, true, false, true, true, false, true, true, false] (OwnQ X.heap.size no nt nr nv O T R V) (by kernel_rfl) (by kernel_rfl) (by kernel_rfl) OwnQ_mono ?_
  simp only [nfM]
  repeat (go_big_quiet_step ((fail)))
  refine wpQuiet_nil ⟨⟨fun vs W1 hE hd => ?_, fun vs W1 hE hd => ?_, fun vs W1 hE hd => ?_, fun vs W1 hE hd => ?_, trivial⟩, fun vs W1 hE hkn => ?_⟩
  · simp [putM, go_sem]
    exact (HO.out _ (Ext.trans S0.out.ext hE)).mono fun e w' ⟨q, d, h1, S⟩ => ⟨_, h1, ⟨q, d, rfl, own_base (S.own 0 rfl) hE.size⟩, S.ext⟩
  · simp [putM, go_sem]
    exact (HT.out _ (Ext.trans S0.out.ext hE)).mono fun e w' ⟨q, d, h1, S⟩ => ⟨_, h1, ⟨q, d, rfl, own_base (S.own 0 rfl) hE.size⟩, S.ext⟩
  · simp [putM, go_sem]
    exact (HR.out _ (Ext.trans S0.out.ext hE)).mono fun e w' ⟨q, d, h1, S⟩ => ⟨_, h1, ⟨q, d, rfl, own_base (S.own 0 rfl) hE.size⟩, S.ext⟩
  · simp [putM, go_sem]
    exact (HV.out _ (Ext.trans S0.out.ext hE)).mono fun e w' ⟨q, d, h1, S⟩ => ⟨_, h1, ⟨q, d, rfl, own_base (S.own 0 rfl) hE.size⟩, S.ext⟩
  obtain ⟨⟨qo, do', k1, r1⟩, ⟨qt, dt, k2, r2⟩, ⟨qr, dr, k3, r3⟩, ⟨qv, dv, k4, r4⟩, _⟩ := hkn
  have c2 := own_cap r2
  have c4 := own_cap r4
  have SY := Lib.hid (S0.out.call hE)
  have Y1 := Lib.hid (S0.out.fresh hE r1 (Nat.le_refl _))
  have Y2 := Lib.hid (S0.out.fresh hE r2 (Nat.le_refl _))
  have Y3 := Lib.hid (S0.out.fresh hE r3 (Nat.le_refl _))
  have Y4 := Lib.hid (S0.out.fresh hE r4 (Nat.le_refl _))
  simp only [putM, k1, k2, k3, k4, List.length_cons, List.length_nil, Nat.zero_add, Nat.reduceAdd, List.drop_succ_cons, List.drop_zero]
  clear x0 x1 x2 x3 k1 k2 k3 k4 hE r1 r2 r3 r4 a0 a1 a2 a3 az
  have uz := (SY.out.blk 0 rfl).lt; have u0 := (SY.out.blk 0 rfl).cell 0; have u1 := (SY.out.blk 0 rfl).cell 1; have u2 := (SY.out.blk 0 rfl).cell 2; have u3 := (SY.out.blk 0 rfl).cell 3
  have uf0 := (SY.out.blk 0 rfl).frozen 0
  have uf1 := (SY.out.blk 0 rfl).frozen 1
  have uf2 := (SY.out.blk 0 rfl).frozen 2
  have uf3 := (SY.out.blk 0 rfl).frozen 3
  go_wp2
  have S7 := (((SY.out.set 0 rfl 0 (.slice qo no do')).set 0 rfl 1 (.slice qt nt dt)).set 0 rfl 2 (.slice qr nr dr)).set 0 rfl 3 (.slice qv nv dv)
  have b0 := (S7.blk 0 rfl).cell 0
  have b1 := (S7.blk 0 rfl).cell 1
  have b2 := (S7.blk 0 rfl).cell 2
  have b3 := (S7.blk 0 rfl).cell 3
  refine bodyPost_ret (v := .agg #[.slice qo no do', .slice qt nt dt, .slice qr nr dr, .slice qv nv dv]) (by simp [results, Tryz.results18, go_sem, b0, b1, b2, b3, Tryz.sizeOf41, Tryz.isAgg41]) rfl ⟨qo, do', qt, dt, qr, dr, qv, dv, rfl, ?_, c2, c4, S7.ext⟩
  exact ⟨((((Y1.out.set 1 rfl 0 (.slice qo no do')).set 1 rfl 1 (.slice qt nt dt)).set 1 rfl 2 (.slice qr nr dr)).set 1 rfl 3 (.slice qv nv dv)).rd 0 rfl (by have := D1.out; omega), ((((Y2.out.set 1 rfl 0 (.slice qo no do')).set 1 rfl 1 (.slice qt nt dt)).set 1 rfl 2 (.slice qr nr dr)).set 1 rfl 3 (.slice qv nv dv)).rd 0 rfl (by have := D2.out; omega), ((((Y3.out.set 1 rfl 0 (.slice qo no do')).set 1 rfl 1 (.slice qt nt dt)).set 1 rfl 2 (.slice qr nr dr)).set 1 rfl 3 (.slice qv nv dv)).rd 0 rfl (by have := D3.out; omega), ((((Y4.out.set 1 rfl 0 (.slice qo no do')).set 1 rfl 1 (.slice qt nt dt)).set 1 rfl 2 (.slice qr nr dr)).set 1 rfl 3 (.slice qv nv dv)).rd 0 rfl (by have := D4.out; omega)⟩
set_option maxRecDepth 100000 in
set_option maxHeartbeats 8000000 in
theorem Edges04_yes (po : Option Addr) (no co : Nat) (O : List Int) (pt : Option Addr) (nt ct : Nat) (T : List Int) (pr : Option Addr) (nr cr : Nat) (R : List Int) (pv : Option Addr) (nv cv : Nat) (V : List Int) (w : World) (hO : Rd w 1 po no (encI O)) (hT : Rd w 1 pt nt (encI T)) (hR : Rd w 1 pr nr (encI R)) (hV : Rd w 1 pv nv (encI V)) (hct : nt ≤ ct) (hcv : nv ≤ cv) (hck : checkR O T R V = true) :
    Calls Tryz.prog 130 #[.agg #[.slice po no co, .slice pt nt ct, .slice pr nr cr, .slice pv nv cv]] w fun e w' => ∃ q c, e = .returned (.tuple #[.slice q (edgL true O T).length c, .int .i64 (edgC true)]) ∧ Sep w w' [.own 108 2 q (edgL true O T).length c (encE (edgL true O T))] := by
  obtain ⟨i0, hi0, hz0, hz1, hz2⟩ := info_parts inf34
  have S0 := Lib.hid ((Sep.start w).al #[.slice po no co, .slice pt nt ct, .slice pr nr cr, .slice pv nv cv] 41 w.heap.size rfl)
  have HC := Lib.hid (fun W1 (h : Ext w W1) => Check04 po no co O pt nt ct T pr nr cr R pv nv cv V W1 (hO.ext h) (hT.ext h) (hR.ext h) (hV.ext h) hct hcv)
  rw [hck] at HC
  have h1 := (checkR_half hck).2.2.1
  have r := offB_parts (halfB_off h1)
  have HOK := offOk_of (halfB_off h1)
  have l1 := hO.nI
  have l2 := hT.nI
  have n1 := hO.small
  have L1 := Lib.hid l1
  have hpk : Hid (∀ k, k < O.length - 1 → ∀ j, (pairsK O T k ++ (rowX O T k).take j).length ≤ 2000) := fun k hk j => by
    have h := (pairs_prefix (O := O) (T := T) (j := j) hk).length_le
    unfold pairs at h
    rw [pairs_len HOK r.2.2.2.1 (O.length - 1) (by omega), r.2.2.2.2.1] at h
    omega
  have HR1 := Lib.hid (fun W1 (h : Ext w W1) k (hk : k + 1 < O.length) => row04 po no co O pt nt ct T k W1 (hO.ext h) (hT.ext h) hct HOK hk (by omega))
  have no200 : no ≤ 201 := by omega
  have rl2000 : ∀ k, (rowL O T k).length ≤ 2000 := fun k => by unfold rowL; rw [List.length_take, List.length_drop]; omega
  have RL := Lib.hid rl2000
  clear hO hT hR hV hck h1 r HOK l1 l2 rl2000
  show Calls _ _ _ _ fun e w' => ∃ q c, e = .returned (.tuple #[.slice q (pairs O T).length c, .int .i64 0]) ∧ Sep w w' [.own 108 2 q (pairs O T).length c (encE (pairs O T))]
  go_enter Tryz.func130, Tryz.ntmps130
  go_wp2_with (go_at_call 57; go_must (refine (HC.out _ S0.out.ext).mono ?_; rintro e w1 ⟨rfl, hb⟩; have S1 := Lib.hid (S0.out.call hb); have az := (S1.out.blk 0 rfl).lt; have a0 := (S1.out.blk 0 rfl).cell 0; have a1 := (S1.out.blk 0 rfl).cell 1; have a2 := (S1.out.blk 0 rfl).cell 2; have a3 := (S1.out.blk 0 rfl).cell 3; clear hb))
  go_loopw [4, 5, 6, 7] (fun out v _ _ wr => ∃ (k : Nat) (q : Option Addr) (c : Nat), k ≤ no - 1 ∧ v = .int .i64 k ∧ out = .slice q (pairsK O T k).length c ∧ Sep w wr [.own 108 2 q (pairsK O T k).length c (encE (pairsK O T k)), .blk w.heap.size 41 #[.slice po no co, .slice pt nt ct, .slice pr nr cr, .slice pv nv cv]]) (fun _ v _ _ _ => no - 1 - (intOf v).toNat)
  case atStart => exact ⟨0, none, 0, Nat.zero_le _, rfl, rfl, S1.out.nilrow _ _⟩
  case round =>
    clear S0 S1 a0 a1 a2 a3 az
    obtain ⟨k, q, c, hk, rfl, rfl, S⟩ := hrel
    have az := (S.blk 1 rfl).lt; have a0 := (S.blk 1 rfl).cell 0; have a1 := (S.blk 1 rfl).cell 1; have a2 := (S.blk 1 rfl).cell 2; have a3 := (S.blk 1 rfl).cell 3
    by_cases hlt : k < no - 1
    · have hkO : k + 1 < O.length := by have := L1.out; omega
      have t1 : (k:Int) + 1 < no := by omega
      have t0 : (0:Int) ≤ k := by omega
      have HRk := Lib.hid (fun W1 (h : Ext w W1) => HR1.out W1 h k hkO)
      have rlk := RL.out k
      have hpl := Lib.hid (hpk.out k (by omega))
      have hst := Lib.hid (fun j (hj : j < (rowL O T k).length) => rowX_take (O := O) (T := T) hj)
      have hend : Hid ((rowX O T k).take (rowL O T k).length = rowX O T k) := by unfold Hid rowX; rw [List.take_of_length_le (by simp)]
      have hps := Lib.hid (pairsK_step O T k)
      generalize rowL O T k = l at *
      generalize rowX O T k = xs at *
      generalize pairsK O T k = ps at *
      have SH := Lib.hid S; clear S
      go_wp2_with (go_at_call 89; go_must (refine (HRk.out _ SH.out.ext).mono ?_; rintro e w3 ⟨q2, c2, rfl, Z⟩; have P1 := Lib.hid (SH.out.comp Z); clear Z))
      go_loopw [4, 7] (fun out i wr => ∃ (j : Nat) (q : Option Addr) (c : Nat), j ≤ l.length ∧ i = .int .i64 j ∧ out = .slice q (ps ++ xs.take j).length c ∧ Sep w wr [.own 3 1 q2 l.length c2 (encI l), .own 108 2 q (ps ++ xs.take j).length c (encE (ps ++ xs.take j)), .blk w.heap.size 41 #[.slice po no co, .slice pt nt ct, .slice pr nr cr, .slice pv nv cv]]) (fun _ i _ => l.length - (intOf i).toNat)
      case atStart => exact ⟨0, q, c, Nat.zero_le _, rfl, by simp, by simpa using P1.out⟩
      case round =>
        clear SH P1 a0 a1 a2 a3 az
        obtain ⟨j, q, c, hj, rfl, rfl, S⟩ := hrel
        have pq := (S.rd 0 rfl (by omega)).ptr
        by_cases hlj : j < l.length
        · have g1 := (S.rd 0 rfl (by omega)).cI hlj
          have h0 := hpl.out j
          have hs : Hid (ps ++ xs.take (j + 1) = (ps ++ xs.take j) ++ [((k:Int), nth l j)]) := by unfold Hid; rw [hst.out j hlj, List.append_assoc]
          generalize ps ++ xs.take j = ys at *
          generalize nth l j = x at *
          have t2 : (0:Int) ≤ j := by omega
          have t3 : (j:Int) < l.length := by omega
          have SH := Lib.hid S; clear S
          go_wp2_with (at_builtin; go_must (refine wpList_append_sep rfl _ _ _ rfl 108 i0 _ 2 16 Tryz.underlying109 hi0 hz0 hz1 hz2 rfl (by omega) (SH.out.junk _) 1 q ys.length c _ rfl rfl _ 1 1 _ rfl (Rd.one2 _ _ _ _) (one_encE _) (by omega) (by omega) ?_; intro q' c' w' S' hsz; have S5 := Lib.hid S'; clear S' hsz))
          go_roundw
          case rel => exact ⟨j + 1, q', c', by omega, by go_num, by rw [hs.out, List.length_append]; rfl, by rw [hs.out, List.length_append, encE_append]; exact S5.out⟩
          case measure => simp [intOf]; omega
        · obtain rfl : j = l.length := by omega
          rw [hend.out, ← hps.out] at S
          rw [hend.out, ← hps.out]
          have SH := Lib.hid S; clear S
          go_wp2
          go_roundw
          case rel => exact ⟨k + 1, q, c, by omega, by go_num, rfl, SH.out.pick [1, 2] (by decide) rfl⟩
          case measure => simp [intOf]; omega
    · have hend : pairsK O T k = pairs O T := by
        unfold pairs
        rw [show O.length - 1 = k by have := L1.out; omega]
      rw [hend] at S
      rw [hend]
      have t1 : decide ((k:Int) + 1 < no) = false := by simp; omega
      have SH := Lib.hid S; clear S
      clear hend
      go_wp2
      go_ret2
      exact ⟨q, c, rfl, SH.out.pick [0] (by decide) rfl⟩
theorem Edges04 (po : Option Addr) (no co : Nat) (O : List Int) (pt : Option Addr) (nt ct : Nat) (T : List Int) (pr : Option Addr) (nr cr : Nat) (R : List Int) (pv : Option Addr) (nv cv : Nat) (V : List Int) (w : World) (hO : Rd w 1 po no (encI O)) (hT : Rd w 1 pt nt (encI T)) (hR : Rd w 1 pr nr (encI R)) (hV : Rd w 1 pv nv (encI V)) (hct : nt ≤ ct) (hcv : nv ≤ cv) :
    Calls Tryz.prog 130 #[.agg #[.slice po no co, .slice pt nt ct, .slice pr nr cr, .slice pv nv cv]] w fun e w' => ∃ q c, e = .returned (.tuple #[.slice q (edgL (checkR O T R V) O T).length c, .int .i64 (edgC (checkR O T R V))]) ∧ Sep w w' [.own 108 2 q (edgL (checkR O T R V) O T).length c (encE (edgL (checkR O T R V) O T))] := by
  cases hck : checkR O T R V with
  | true => exact Edges04_yes po no co O pt nt ct T pr nr cr R pv nv cv V w hO hT hR hV hct hcv hck
  | false =>
    have S0 := Lib.hid ((Sep.start w).al #[.slice po no co, .slice pt nt ct, .slice pr nr cr, .slice pv nv cv] 41 w.heap.size rfl)
    have HC := Lib.hid (fun W1 (h : Ext w W1) => Check04 po no co O pt nt ct T pr nr cr R pv nv cv V W1 (hO.ext h) (hT.ext h) (hR.ext h) (hV.ext h) hct hcv)
    rw [hck] at HC
    clear hO hT hR hV hck
    show Calls _ _ _ _ fun e w' => ∃ q c, e = .returned (.tuple #[.slice q 0 c, .int .i64 40]) ∧ Sep w w' [.own 108 2 q 0 c []]
    go_enter Tryz.func130, Tryz.ntmps130
    go_wp2_with (go_at_call 57; go_must (refine (HC.out _ S0.out.ext).mono ?_; rintro e w1 ⟨rfl, hb⟩; have S1 := Lib.hid (S0.out.call hb); have az := (S1.out.blk 0 rfl).lt; have a0 := (S1.out.blk 0 rfl).cell 0; have a1 := (S1.out.blk 0 rfl).cell 1; have a2 := (S1.out.blk 0 rfl).cell 2; have a3 := (S1.out.blk 0 rfl).cell 3; clear hb))
    go_ret2
    exact ⟨none, 0, rfl, ((Sep.start w).call S1.out.ext).nilrow _ _⟩
end Go.Proofs.YtkekibnhmfmhmaaGreat
/- The law ProgSteps: a query may be, or not, starts just so, and goes on just so from a place, or it is refused. -/
namespace Go.Proofs.YtkekibnhmfmhmaaGreat
open Go Go.RowKit
attribute [local go_sem] Oper.semAt_some
theorem bigR_bd18 {O T R V : List Int} (h : bigR O T R V = false) : O.length ≤ 250 ∧ T.length ≤ 2100 ∧ R.length ≤ 250 ∧ V.length ≤ 2100 := by
  unfold bigR at h
  simp only [Bool.or_eq_false_iff, decide_eq_false_iff_not] at h
  omega
set_option maxRecDepth 100000 in
set_option maxHeartbeats 16000000 in
theorem lawSteps18 (k f t : Int) (pw : Option Addr) (nw cw : Nat) (ws : List ByteArray) (rad most : Int) (po : Option Addr) (no co : Nat) (O : List Int) (pt : Option Addr) (nt ct : Nat) (T : List Int) (pr : Option Addr) (nr cr : Nat) (R : List Int) (pv : Option Addr) (nv cv : Nat) (V : List Int) (s r v d n slot : Int) (w : World) (hw : Rd w 1 pw nw (encS ws)) (hO : Rd w 1 po no (encI O)) (hT : Rd w 1 pt nt (encI T)) (hR : Rd w 1 pr nr (encI R)) (hV : Rd w 1 pv nv (encI V)) (hct : nt ≤ ct) (hcv : nv ≤ cv) :
    Calls Tryz.prog 4 #[.agg #[.int .i64 k, .int .i64 f, .int .i64 t, .slice pw nw cw, .int .i64 rad, .int .i64 most], .agg #[.slice po no co, .slice pt nt ct, .slice pr nr cr, .slice pv nv cv], .agg #[.int .i64 s, .int .i64 r, .int .i64 v, .int .i64 d], .int .i64 n, .int .i64 slot] w fun e w' => e = .returned (.bool true) ∧ Ext w w' := by
  have S0 := Lib.hid ((((Sep.start w).al #[.int .i64 k, .int .i64 f, .int .i64 t, .slice pw nw cw, .int .i64 rad, .int .i64 most] 24 w.heap.size rfl).al #[.slice po no co, .slice pt nt ct, .slice pr nr cr, .slice pv nv cv] 41 (w.heap.size + 1) (by simp)).al #[.int .i64 s, .int .i64 r, .int .i64 v, .int .i64 d] 45 (w.heap.size + 1 + 1) (by simp))
  have HBG := Lib.hid (fun W (h : Ext w W) => BigQ k f t pw nw cw ws rad most W (hw.ext h))
  have HBR := Lib.hid (fun W (h : Ext w W) => Big04 po no co O pt nt ct T pr nr cr R pv nv cv V W (hO.ext h) (hT.ext h) (hR.ext h) (hV.ext h))
  cases hbig : bigQ ws with
  | true =>
    rw [hbig] at HBG
    clear hO hT hR hV hw hbig
    go_enter Tryz.func4, Tryz.ntmps4
    go_wp2_with (first | (go_at_call 17; go_must (refine (HBR.out _ S1.out.ext).mono ?_; rintro e w2 ⟨rfl, hb⟩; have S2 := Lib.hid (S1.out.call hb); clear y0 y1 y2 y3 yz b0 b1 b2 b3 bz a0 a1 a2 a3 a4 a5 az; have y0 := (S2.out.blk 0 rfl).cell 0; have y1 := (S2.out.blk 0 rfl).cell 1; have y2 := (S2.out.blk 0 rfl).cell 2; have y3 := (S2.out.blk 0 rfl).cell 3; have yz := (S2.out.blk 0 rfl).lt; have b0 := (S2.out.blk 1 rfl).cell 0; have b1 := (S2.out.blk 1 rfl).cell 1; have b2 := (S2.out.blk 1 rfl).cell 2; have b3 := (S2.out.blk 1 rfl).cell 3; have bz := (S2.out.blk 1 rfl).lt; have a0 := (S2.out.blk 2 rfl).cell 0; have a1 := (S2.out.blk 2 rfl).cell 1; have a2 := (S2.out.blk 2 rfl).cell 2; have a3 := (S2.out.blk 2 rfl).cell 3; have a4 := (S2.out.blk 2 rfl).cell 4; have a5 := (S2.out.blk 2 rfl).cell 5; have az := (S2.out.blk 2 rfl).lt; clear hb)) | (go_at_call 10; go_must (refine (HBG.out _ S0.out.ext).mono ?_; rintro e w1 ⟨rfl, hb⟩; have S1 := Lib.hid (S0.out.call hb); have y0 := (S1.out.blk 0 rfl).cell 0; have y1 := (S1.out.blk 0 rfl).cell 1; have y2 := (S1.out.blk 0 rfl).cell 2; have y3 := (S1.out.blk 0 rfl).cell 3; have yz := (S1.out.blk 0 rfl).lt; have b0 := (S1.out.blk 1 rfl).cell 0; have b1 := (S1.out.blk 1 rfl).cell 1; have b2 := (S1.out.blk 1 rfl).cell 2; have b3 := (S1.out.blk 1 rfl).cell 3; have bz := (S1.out.blk 1 rfl).lt; have a0 := (S1.out.blk 2 rfl).cell 0; have a1 := (S1.out.blk 2 rfl).cell 1; have a2 := (S1.out.blk 2 rfl).cell 2; have a3 := (S1.out.blk 2 rfl).cell 3; have a4 := (S1.out.blk 2 rfl).cell 4; have a5 := (S1.out.blk 2 rfl).cell 5; have az := (S1.out.blk 2 rfl).lt; clear hb)))
    go_ret
    exact ⟨rfl, S1.out.ext⟩
  | false =>
    rw [hbig] at HBG
    cases hbr : bigR O T R V with
    | true =>
      rw [hbr] at HBR
      clear hO hT hR hV hw hbig hbr
      go_enter Tryz.func4, Tryz.ntmps4
      go_wp2_with (first | (go_at_call 17; go_must (refine (HBR.out _ S1.out.ext).mono ?_; rintro e w2 ⟨rfl, hb⟩; have S2 := Lib.hid (S1.out.call hb); clear y0 y1 y2 y3 yz b0 b1 b2 b3 bz a0 a1 a2 a3 a4 a5 az; have y0 := (S2.out.blk 0 rfl).cell 0; have y1 := (S2.out.blk 0 rfl).cell 1; have y2 := (S2.out.blk 0 rfl).cell 2; have y3 := (S2.out.blk 0 rfl).cell 3; have yz := (S2.out.blk 0 rfl).lt; have b0 := (S2.out.blk 1 rfl).cell 0; have b1 := (S2.out.blk 1 rfl).cell 1; have b2 := (S2.out.blk 1 rfl).cell 2; have b3 := (S2.out.blk 1 rfl).cell 3; have bz := (S2.out.blk 1 rfl).lt; have a0 := (S2.out.blk 2 rfl).cell 0; have a1 := (S2.out.blk 2 rfl).cell 1; have a2 := (S2.out.blk 2 rfl).cell 2; have a3 := (S2.out.blk 2 rfl).cell 3; have a4 := (S2.out.blk 2 rfl).cell 4; have a5 := (S2.out.blk 2 rfl).cell 5; have az := (S2.out.blk 2 rfl).lt; clear hb)) | (go_at_call 10; go_must (refine (HBG.out _ S0.out.ext).mono ?_; rintro e w1 ⟨rfl, hb⟩; have S1 := Lib.hid (S0.out.call hb); have y0 := (S1.out.blk 0 rfl).cell 0; have y1 := (S1.out.blk 0 rfl).cell 1; have y2 := (S1.out.blk 0 rfl).cell 2; have y3 := (S1.out.blk 0 rfl).cell 3; have yz := (S1.out.blk 0 rfl).lt; have b0 := (S1.out.blk 1 rfl).cell 0; have b1 := (S1.out.blk 1 rfl).cell 1; have b2 := (S1.out.blk 1 rfl).cell 2; have b3 := (S1.out.blk 1 rfl).cell 3; have bz := (S1.out.blk 1 rfl).lt; have a0 := (S1.out.blk 2 rfl).cell 0; have a1 := (S1.out.blk 2 rfl).cell 1; have a2 := (S1.out.blk 2 rfl).cell 2; have a3 := (S1.out.blk 2 rfl).cell 3; have a4 := (S1.out.blk 2 rfl).cell 4; have a5 := (S1.out.blk 2 rfl).cell 5; have az := (S1.out.blk 2 rfl).lt; clear hb)))
      go_ret
      exact ⟨rfl, S2.out.ext⟩
    | false =>
      rw [hbr] at HBR
      have hbd := bigR_bd18 hbr
      have l1 := hO.nI
      have l2 := hT.nI
      have l3 := hR.nI
      have l4 := hV.nI
      obtain ⟨_, hz⟩ := bigQ_no hbig
      have hz2 : ∀ s ∈ ws, s.size ≤ 1000000 := fun s hs => Nat.le_trans (hz s hs) (by omega)
      have HBD : ∀ v, checkR O T R V = true → (outL (checkR O T R V) O T v).length ≤ 100000 ∧ (outL (checkR O T R V) R V v).length ≤ 100000 := fun v hck => by rw [hck]; have := out_2000 hck v; omega
      have HOW := Lib.hid (fun W (h : Ext w W) => Own04 po no co O pt nt ct T pr nr cr R pv nv cv V W (hO.ext h) (hT.ext h) (hR.ext h) (hV.ext h) (by omega) (by omega) (by omega) (by omega))
      have HN := Lib.hid (fun W (h : Ext w W) => NextQ k f t pw nw cw rad most po no co O pt nt ct T pr nr cr R pv nv cv V W ⟨s, r, v, d⟩ (hO.ext h) (hT.ext h) (hR.ext h) (hV.ext h) hct hcv HBD)
      have HN2 := Lib.hid (fun (qo : Option Addr) (do' : Nat) (qt : Option Addr) (dt : Nat) (qr : Option Addr) (dr : Nat) (qv : Option Addr) (dv : Nat) W (h : R4 W qo no qt nt qr nr qv nv O T R V) (h1 : nt ≤ dt) (h2 : nv ≤ dv) => Next18 k f t pw nw cw rad most qo no do' O qt nt dt T qr nr dr R qv nv dv V W s r v d h.o h.t h.r h.v h1 h2 HBD)
      have HSM := Lib.hid (fun (qo : Option Addr) (do' : Nat) (qt : Option Addr) (dt : Nat) (qr : Option Addr) (dr : Nat) (qv : Option Addr) (dv : Nat) W1 (h0 : Ext w W1) (h : R4 W1 qo no qt nt qr nr qv nv O T R V) => Same04T po no co O pt nt ct T pr nr cr R pv nv cv V qo no do' qt nt dt qr nr dr qv nv dv W1 (hO.ext h0) (hT.ext h0) (hR.ext h0) (hV.ext h0) h.o h.t h.r h.v)
      have HC1 := Lib.hid (fun W (h : Ext w W) => CheckQ k f t pw nw cw ws rad most n W (hw.ext h) hz2)
      have HC2 := Lib.hid (fun W (h : Ext w W) => Check18 k f t pw nw cw ws rad most n W (hw.ext h) hz2)
      have HS1 := Lib.hid (fun W => StartQ k f t pw nw cw rad most slot W)
      have HS2 := Lib.hid (fun W => Start18 k f t pw nw cw rad most slot W)
      clear hO hT hR hV hw hbig hbr hbd l1 l2 l3 l4 hz hz2 HBD
      generalize nextL k rad (checkR O T R V) O T R V ⟨s, r, v, d⟩ = L at *
      generalize nextC (checkR O T R V) O R ⟨s, r, v, d⟩ = ec at *
      generalize chkQ k f t ws rad most n = ck at *
      generalize startQ k f t slot = M at *
      go_enter Tryz.func4, Tryz.ntmps4
      go_wp2_with (first | (go_at_call 20; have _t := S4; go_must (refine (HN2.out qo do' qt dt qr dr qv dv _ KO4.out CC.out.1 CC.out.2).mono ?_; rintro e w5 ⟨q2, c2, rfl, Z⟩; have S5 := Lib.hid (S4.out.comp Z); have KO5 := Lib.hid (KO4.out.ext Z.ext); clear y0 y1 y2 y3 yz b0 b1 b2 b3 bz a0 a1 a2 a3 a4 a5 az; clear o0 o1 o2 o3 oz Z)) | (go_at_call 19; go_must (refine (HN.out _ S3.out.ext).mono ?_; rintro e w4 ⟨q1, c1, rfl, Z⟩; have S4 := Lib.hid (S3.out.comp Z); have KO4 := Lib.hid (KO3.out.ext Z.ext); clear y0 y1 y2 y3 yz b0 b1 b2 b3 bz a0 a1 a2 a3 a4 a5 az; have y0 := (S4.out.blk 2 rfl).cell 0; have y1 := (S4.out.blk 2 rfl).cell 1; have y2 := (S4.out.blk 2 rfl).cell 2; have y3 := (S4.out.blk 2 rfl).cell 3; have yz := (S4.out.blk 2 rfl).lt; have b0 := (S4.out.blk 3 rfl).cell 0; have b1 := (S4.out.blk 3 rfl).cell 1; have b2 := (S4.out.blk 3 rfl).cell 2; have b3 := (S4.out.blk 3 rfl).cell 3; have bz := (S4.out.blk 3 rfl).lt; have a0 := (S4.out.blk 4 rfl).cell 0; have a1 := (S4.out.blk 4 rfl).cell 1; have a2 := (S4.out.blk 4 rfl).cell 2; have a3 := (S4.out.blk 4 rfl).cell 3; have a4 := (S4.out.blk 4 rfl).cell 4; have a5 := (S4.out.blk 4 rfl).cell 5; have az := (S4.out.blk 4 rfl).lt; have o0 := (S4.out.blk 1 rfl).cell 0; have o1 := (S4.out.blk 1 rfl).cell 1; have o2 := (S4.out.blk 1 rfl).cell 2; have o3 := (S4.out.blk 1 rfl).cell 3; have oz := (S4.out.blk 1 rfl).lt; clear Z)) | (go_at_call 18; go_must (refine (HOW.out _ S2.out.ext).mono ?_; rintro e w3 ⟨qo, do', qt, dt, qr, dr, qv, dv, rfl, k1, C1, C2, k2⟩; have CC := Lib.hid (And.intro C1 C2); have KO := Lib.hid k1; have S2' := Lib.hid (S2.out.call k2); have S3 := Lib.hid (S2'.out.al #[.slice qo no do', .slice qt nt dt, .slice qr nr dr, .slice qv nv dv] 41 w3.heap.size rfl); clear y0 y1 y2 y3 yz b0 b1 b2 b3 bz a0 a1 a2 a3 a4 a5 az; have y0 := (S2'.out.blk 0 rfl).cell 0; have y1 := (S2'.out.blk 0 rfl).cell 1; have y2 := (S2'.out.blk 0 rfl).cell 2; have y3 := (S2'.out.blk 0 rfl).cell 3; have yz := (S2'.out.blk 0 rfl).lt; have b0 := (S2'.out.blk 1 rfl).cell 0; have b1 := (S2'.out.blk 1 rfl).cell 1; have b2 := (S2'.out.blk 1 rfl).cell 2; have b3 := (S2'.out.blk 1 rfl).cell 3; have bz := (S2'.out.blk 1 rfl).lt; have a0 := (S2'.out.blk 2 rfl).cell 0; have a1 := (S2'.out.blk 2 rfl).cell 1; have a2 := (S2'.out.blk 2 rfl).cell 2; have a3 := (S2'.out.blk 2 rfl).cell 3; have a4 := (S2'.out.blk 2 rfl).cell 4; have a5 := (S2'.out.blk 2 rfl).cell 5; have az := (S2'.out.blk 2 rfl).lt; have KO3 := Lib.hid (k1.ext ((Sep.start w3).al #[.slice qo no do', .slice qt nt dt, .slice qr nr dr, .slice qv nv dv] 41 w3.heap.size rfl).ext); clear k1 k2 C1 C2 S2')) | (go_at_call 17; go_must (refine (HBR.out _ S1.out.ext).mono ?_; rintro e w2 ⟨rfl, hb⟩; have S2 := Lib.hid (S1.out.call hb); clear y0 y1 y2 y3 yz b0 b1 b2 b3 bz a0 a1 a2 a3 a4 a5 az; have y0 := (S2.out.blk 0 rfl).cell 0; have y1 := (S2.out.blk 0 rfl).cell 1; have y2 := (S2.out.blk 0 rfl).cell 2; have y3 := (S2.out.blk 0 rfl).cell 3; have yz := (S2.out.blk 0 rfl).lt; have b0 := (S2.out.blk 1 rfl).cell 0; have b1 := (S2.out.blk 1 rfl).cell 1; have b2 := (S2.out.blk 1 rfl).cell 2; have b3 := (S2.out.blk 1 rfl).cell 3; have bz := (S2.out.blk 1 rfl).lt; have a0 := (S2.out.blk 2 rfl).cell 0; have a1 := (S2.out.blk 2 rfl).cell 1; have a2 := (S2.out.blk 2 rfl).cell 2; have a3 := (S2.out.blk 2 rfl).cell 3; have a4 := (S2.out.blk 2 rfl).cell 4; have a5 := (S2.out.blk 2 rfl).cell 5; have az := (S2.out.blk 2 rfl).lt; clear hb)) | (go_at_call 10; go_must (refine (HBG.out _ S0.out.ext).mono ?_; rintro e w1 ⟨rfl, hb⟩; have S1 := Lib.hid (S0.out.call hb); have y0 := (S1.out.blk 0 rfl).cell 0; have y1 := (S1.out.blk 0 rfl).cell 1; have y2 := (S1.out.blk 0 rfl).cell 2; have y3 := (S1.out.blk 0 rfl).cell 3; have yz := (S1.out.blk 0 rfl).lt; have b0 := (S1.out.blk 1 rfl).cell 0; have b1 := (S1.out.blk 1 rfl).cell 1; have b2 := (S1.out.blk 1 rfl).cell 2; have b3 := (S1.out.blk 1 rfl).cell 3; have bz := (S1.out.blk 1 rfl).lt; have a0 := (S1.out.blk 2 rfl).cell 0; have a1 := (S1.out.blk 2 rfl).cell 1; have a2 := (S1.out.blk 2 rfl).cell 2; have a3 := (S1.out.blk 2 rfl).cell 3; have a4 := (S1.out.blk 2 rfl).cell 4; have a5 := (S1.out.blk 2 rfl).cell 5; have az := (S1.out.blk 2 rfl).lt; clear hb)))
      refine wp_region_noPanic ?_
      refine wp_region_held_drew (S := fun W => Blk W w.heap.size 24 #[.int .i64 k, .int .i64 f, .int .i64 t, .slice pw nw cw, .int .i64 rad, .int .i64 most] ∧ Blk W (w.heap.size + 1) 41 #[.slice po no co, .slice pt nt ct, .slice pr nr cr, .slice pv nv cv] ∧ Blk W w3.heap.size 41 #[.slice qo no do', .slice qt nt dt, .slice qr nr dr, .slice qv nv dv]) (by kernel_rfl) ⟨S5.out.drew.blk 5 rfl, S5.out.drew.blk 4 rfl, S5.out.drew.blk 2 rfl⟩ (fun hHeld => ?_)
      have SD := Lib.hid S5.out.drew
      have KD := Lib.hid (KO5.out.ext (Sep.start w5).drew.ext)
      clear S0 S1 S2 S3 S4 S5 KO KO3 KO4 KO5 HBG HBR HN HN2 HOW
      generalize w5.drew = D at SD KD hHeld ⊢
      refine wpAnyH_ready (rs := [0]) (by kernel_rfl) (by simp) (AllReadyH.cons rfl (fun K hK => ?_) AllReadyH.nil)
      go_simp
      refine (ProgsG _).mono ?_
      rintro e w6 ⟨rfl, hb⟩
      have S6 := Lib.hid (SD.out.call hb)
      have K6 := Lib.hid (KD.out.ext hb)
      clear hb
      refine hK.out _ _ ⟨S6.out.blk 5 rfl, S6.out.blk 4 rfl, S6.out.blk 2 rfl⟩ (fun hHeld => ?_)
      clear hK
      refine wpAnyH_take (i := 1) (v := .bool true) rfl (by kernel_rfl) (by kernel_rfl) (by kernel_rfl) (noPanic_q _ _) (Or.inl ⟨by kernel_rfl, fun W hSw => by go_simp⟩) hHeld ?_
      refine wpAnyH_take (i := 2) (v := .agg #[.int .i64 k, .int .i64 f, .int .i64 t, .slice pw nw cw, .int .i64 rad, .int .i64 most]) rfl (by kernel_rfl) (by kernel_rfl) (by kernel_rfl) (noPanic_q _ _) (Or.inl ⟨by kernel_rfl, fun W hSw => by have h0 := hSw.1.cell 0; have h1 := hSw.1.cell 1; have h2 := hSw.1.cell 2; have h3 := hSw.1.cell 3; have h4 := hSw.1.cell 4; have h5 := hSw.1.cell 5; clear hSw; go_simp⟩) hHeld ?_
      refine wpAnyH_take (i := 3) (v := .int .i64 n) rfl (by kernel_rfl) (by kernel_rfl) (by kernel_rfl) (noPanic_q _ _) (Or.inl ⟨by kernel_rfl, fun W hSw => by go_simp⟩) hHeld ?_
      refine wpAnyH_take (i := 5) (v := .agg #[.int .i64 k, .int .i64 f, .int .i64 t, .slice pw nw cw, .int .i64 rad, .int .i64 most]) rfl (by kernel_rfl) (by kernel_rfl) (by kernel_rfl) (noPanic_q _ _) (Or.inl ⟨by kernel_rfl, fun W hSw => by have h0 := hSw.1.cell 0; have h1 := hSw.1.cell 1; have h2 := hSw.1.cell 2; have h3 := hSw.1.cell 3; have h4 := hSw.1.cell 4; have h5 := hSw.1.cell 5; clear hSw; go_simp⟩) hHeld ?_
      refine wpAnyH_take (i := 6) (v := .int .i64 n) rfl (by kernel_rfl) (by kernel_rfl) (by kernel_rfl) (noPanic_q _ _) (Or.inl ⟨by kernel_rfl, fun W hSw => by go_simp⟩) hHeld ?_
      refine wpAnyH_ready (rs := [4]) (by kernel_rfl) (by simp) (AllReadyH.cons rfl (fun K hK => ?_) AllReadyH.nil)
      go_simp
      refine (HC1.out _ S6.out.ext).mono ?_
      rintro e w7 ⟨rfl, hb⟩
      have S7 := Lib.hid (S6.out.call hb)
      have K7 := Lib.hid (K6.out.ext hb)
      clear hb
      refine hK.out _ _ ⟨S7.out.blk 5 rfl, S7.out.blk 4 rfl, S7.out.blk 2 rfl⟩ (fun hHeld => ?_)
      clear hK
      refine wpAnyH_ready (rs := [7]) (by kernel_rfl) (by simp) (AllReadyH.cons rfl (fun K hK => ?_) AllReadyH.nil)
      go_simp
      refine (HC2.out _ S7.out.ext).mono ?_
      rintro e w8 ⟨rfl, hb⟩
      have S8 := Lib.hid (S7.out.call hb)
      have K8 := Lib.hid (K7.out.ext hb)
      clear hb
      refine hK.out _ _ ⟨S8.out.blk 5 rfl, S8.out.blk 4 rfl, S8.out.blk 2 rfl⟩ (fun hHeld => ?_)
      clear hK
      refine wpAnyH_take (i := 8) (v := .bool true) rfl (by kernel_rfl) (by kernel_rfl) (by kernel_rfl) (noPanic_q _ _) (Or.inl ⟨by kernel_rfl, fun W hSw => by go_simp⟩) hHeld ?_
      refine wpAnyH_take (i := 9) (v := .bool true) rfl (by kernel_rfl) (by kernel_rfl) (by kernel_rfl) (noPanic_q _ _) (Or.inl ⟨by kernel_rfl, fun W hSw => by go_simp⟩) hHeld ?_
      refine wpAnyH_take (i := 10) (v := .bool true) rfl (by kernel_rfl) (by kernel_rfl) (by kernel_rfl) (noPanic_q _ _) (Or.inl ⟨by kernel_rfl, fun W hSw => by go_simp⟩) hHeld ?_
      refine wpAnyH_take (i := 11) (v := .agg #[.int .i64 k, .int .i64 f, .int .i64 t, .slice pw nw cw, .int .i64 rad, .int .i64 most]) rfl (by kernel_rfl) (by kernel_rfl) (by kernel_rfl) (noPanic_q _ _) (Or.inl ⟨by kernel_rfl, fun W hSw => by have h0 := hSw.1.cell 0; have h1 := hSw.1.cell 1; have h2 := hSw.1.cell 2; have h3 := hSw.1.cell 3; have h4 := hSw.1.cell 4; have h5 := hSw.1.cell 5; clear hSw; go_simp⟩) hHeld ?_
      refine wpAnyH_take (i := 12) (v := .int .i64 slot) rfl (by kernel_rfl) (by kernel_rfl) (by kernel_rfl) (noPanic_q _ _) (Or.inl ⟨by kernel_rfl, fun W hSw => by go_simp⟩) hHeld ?_
      refine wpAnyH_take (i := 14) (v := .agg #[.int .i64 k, .int .i64 f, .int .i64 t, .slice pw nw cw, .int .i64 rad, .int .i64 most]) rfl (by kernel_rfl) (by kernel_rfl) (by kernel_rfl) (noPanic_q _ _) (Or.inl ⟨by kernel_rfl, fun W hSw => by have h0 := hSw.1.cell 0; have h1 := hSw.1.cell 1; have h2 := hSw.1.cell 2; have h3 := hSw.1.cell 3; have h4 := hSw.1.cell 4; have h5 := hSw.1.cell 5; clear hSw; go_simp⟩) hHeld ?_
      refine wpAnyH_take (i := 15) (v := .int .i64 slot) rfl (by kernel_rfl) (by kernel_rfl) (by kernel_rfl) (noPanic_q _ _) (Or.inl ⟨by kernel_rfl, fun W hSw => by go_simp⟩) hHeld ?_
      refine wpAnyH_ready (rs := [13]) (by kernel_rfl) (by simp) (AllReadyH.cons rfl (fun K hK => ?_) AllReadyH.nil)
      go_simp
      refine (HS1.out _).mono ?_
      rintro e w9 ⟨q3, c3, rfl, Z⟩
      have S9 := Lib.hid (S8.out.comp Z)
      have K9 := Lib.hid (K8.out.ext Z.ext)
      clear Z
      refine hK.out _ _ ⟨S9.out.blk 6 rfl, S9.out.blk 5 rfl, S9.out.blk 3 rfl⟩ (fun hHeld => ?_)
      clear hK
      refine wpAnyH_ready (rs := [16]) (by kernel_rfl) (by simp) (AllReadyH.cons rfl (fun K hK => ?_) AllReadyH.nil)
      go_simp
      refine (HS2.out _).mono ?_
      rintro e wa ⟨q4, c4, rfl, Z⟩
      have Sa := Lib.hid (S9.out.comp Z)
      have Ka := Lib.hid (K9.out.ext Z.ext)
      clear Z
      refine hK.out _ _ ⟨Sa.out.blk 7 rfl, Sa.out.blk 6 rfl, Sa.out.blk 4 rfl⟩ (fun hHeld => ?_)
      clear hK
      refine wpAnyH_ready (rs := [17]) (by kernel_rfl) (by simp) (AllReadyH.cons rfl (fun K hK => ?_) AllReadyH.nil)
      go_simp
      refine (SameQ _ _ _ _ _ _ M _ (Sa.out.rdx 1 rfl) (Sa.out.rdx 0 rfl)).mono ?_
      rintro e wb ⟨rfl, hb⟩
      have Sb := Lib.hid (Sa.out.call hb)
      have Kb := Lib.hid (Ka.out.ext hb)
      clear hb
      refine hK.out _ _ ⟨Sb.out.blk 7 rfl, Sb.out.blk 6 rfl, Sb.out.blk 4 rfl⟩ (fun hHeld => ?_)
      clear hK
      refine wpAnyH_take (i := 18) (v := .bool true) rfl (by kernel_rfl) (by kernel_rfl) (by kernel_rfl) (noPanic_q _ _) (Or.inl ⟨by kernel_rfl, fun W hSw => by go_simp⟩) hHeld ?_
      refine wpAnyH_take (i := 19) (v := .bool true) rfl (by kernel_rfl) (by kernel_rfl) (by kernel_rfl) (noPanic_q _ _) (Or.inl ⟨by kernel_rfl, fun W hSw => by go_simp⟩) hHeld ?_
      refine wpAnyH_take (i := 20) (v := .slice q1 L.length c1) rfl (by kernel_rfl) (by kernel_rfl) (by kernel_rfl) (noPanic_q _ _) (Or.inl ⟨by kernel_rfl, fun W hSw => by go_simp⟩) hHeld ?_
      refine wpAnyH_take (i := 21) (v := .slice q2 L.length c2) rfl (by kernel_rfl) (by kernel_rfl) (by kernel_rfl) (noPanic_q _ _) (Or.inl ⟨by kernel_rfl, fun W hSw => by go_simp⟩) hHeld ?_
      refine wpAnyH_ready (rs := [22]) (by kernel_rfl) (by simp) (AllReadyH.cons rfl (fun K hK => ?_) AllReadyH.nil)
      go_simp
      refine (SameQ _ _ _ _ _ _ L _ (Sb.out.rdx 3 rfl) (Sb.out.rdx 2 rfl)).mono ?_
      rintro e wc ⟨rfl, hb⟩
      have Sc := Lib.hid (Sb.out.call hb)
      have Kc := Lib.hid (Kb.out.ext hb)
      clear hb
      refine hK.out _ _ ⟨Sc.out.blk 7 rfl, Sc.out.blk 6 rfl, Sc.out.blk 4 rfl⟩ (fun hHeld => ?_)
      clear hK
      refine wpAnyH_take (i := 23) (v := .bool true) rfl (by kernel_rfl) (by kernel_rfl) (by kernel_rfl) (noPanic_q _ _) (Or.inl ⟨by kernel_rfl, fun W hSw => by go_simp⟩) hHeld ?_
      refine wpAnyH_take (i := 24) (v := .bool true) rfl (by kernel_rfl) (by kernel_rfl) (by kernel_rfl) (noPanic_q _ _) (Or.inl ⟨by kernel_rfl, fun W hSw => by go_simp⟩) hHeld ?_
      refine wpAnyH_take (i := 25) (v := .int .i64 ec) rfl (by kernel_rfl) (by kernel_rfl) (by kernel_rfl) (noPanic_q _ _) (Or.inl ⟨by kernel_rfl, fun W hSw => by go_simp⟩) hHeld ?_
      refine wpAnyH_take (i := 26) (v := .int .i64 ec) rfl (by kernel_rfl) (by kernel_rfl) (by kernel_rfl) (noPanic_q _ _) (Or.inl ⟨by kernel_rfl, fun W hSw => by go_simp⟩) hHeld ?_
      refine wpAnyH_take (i := 27) (v := .bool true) rfl (by kernel_rfl) (by kernel_rfl) (by kernel_rfl) (noPanic_q _ _) (Or.inl ⟨by kernel_rfl, fun W hSw => by go_simp⟩) hHeld ?_
      refine wpAnyH_take (i := 28) (v := .bool true) rfl (by kernel_rfl) (by kernel_rfl) (by kernel_rfl) (noPanic_q _ _) (Or.inl ⟨by kernel_rfl, fun W hSw => by go_simp⟩) hHeld ?_
      refine wpAnyH_take (i := 29) (v := .bool true) rfl (by kernel_rfl) (by kernel_rfl) (by kernel_rfl) (noPanic_q _ _) (Or.inl ⟨by kernel_rfl, fun W hSw => by go_simp⟩) hHeld ?_
      refine wpAnyH_take (i := 30) (v := .agg #[.slice po no co, .slice pt nt ct, .slice pr nr cr, .slice pv nv cv]) rfl (by kernel_rfl) (by kernel_rfl) (by kernel_rfl) (noPanic_q _ _) (Or.inl ⟨by kernel_rfl, fun W hSw => by have h0 := hSw.2.1.cell 0; have h1 := hSw.2.1.cell 1; have h2 := hSw.2.1.cell 2; have h3 := hSw.2.1.cell 3; clear hSw; go_simp⟩) hHeld ?_
      refine wpAnyH_take (i := 31) (v := .agg #[.slice qo no do', .slice qt nt dt, .slice qr nr dr, .slice qv nv dv]) rfl (by kernel_rfl) (by kernel_rfl) (by kernel_rfl) (noPanic_q _ _) (Or.inl ⟨by kernel_rfl, fun W hSw => by have h0 := hSw.2.2.cell 0; have h1 := hSw.2.2.cell 1; have h2 := hSw.2.2.cell 2; have h3 := hSw.2.2.cell 3; clear hSw; go_simp⟩) hHeld ?_
      refine wpAnyH_ready (rs := [32]) (by kernel_rfl) (by simp) (AllReadyH.cons rfl (fun K hK => ?_) AllReadyH.nil)
      go_simp
      refine (HSM.out qo do' qt dt qr dr qv dv _ Sc.out.ext Kc.out).mono ?_
      rintro e wd ⟨rfl, hb⟩
      have Sd := Lib.hid (Sc.out.call hb)
      clear hb
      refine hK.out _ _ ⟨Sd.out.blk 7 rfl, Sd.out.blk 6 rfl, Sd.out.blk 4 rfl⟩ (fun hHeld => ?_)
      clear hK
      refine wpAnyH_take (i := 33) (v := .bool true) rfl (by kernel_rfl) (by kernel_rfl) (by kernel_rfl) (noPanic_q _ _) (Or.inl ⟨by kernel_rfl, fun W hSw => by go_simp⟩) hHeld ?_
      refine wpAnyH_take (i := 34) (v := .bool true) rfl (by kernel_rfl) (by kernel_rfl) (by kernel_rfl) (noPanic_q _ _) (Or.inl ⟨by kernel_rfl, fun W hSw => by go_simp⟩) hHeld ?_
      refine wpAnyH_done (by kernel_rfl) ?_ _
      refine noPanic_mk ?_
      clear hHeld
      try simp [Act.put]
      go_wp2
      go_ret
      exact ⟨rfl, Sd.out.ext⟩
end Go.Proofs.YtkekibnhmfmhmaaGreat
/- An argument that is a graph, opened: what its slices read. -/
namespace Go.Proofs.YtkekibnhmfmhmaaGreat
open Go Go.RowKit Go.ChangeShapes Go.WideShapes Go.ChangeAt Go.Deep Go.Joins
theorem exists_list {α : Type} [Inhabited α] {n : Nat} {p : Nat → α → Prop} (h : ∀ i, i < n → ∃ x, p i x) : ∃ l : List α, l.length = n ∧ ∀ i, i < n → p i (nth l i) := by
  induction n with
  | zero => exact ⟨[], rfl, fun i hi => by omega⟩
  | succ n ih =>
    obtain ⟨l, hl, hp⟩ := ih fun i hi => h i (by omega)
    obtain ⟨x, hx⟩ := h n (by omega)
    refine ⟨l ++ [x], by simp [hl], fun i hi => ?_⟩
    by_cases e : i = n
    · subst e
      have : nth (l ++ [x]) i = x := by subst hl; exact nth_append_new _ _
      rw [this]; exact hx
    · rw [nth_append_left _ _ _ (by omega)]; exact hp i (by omega)
theorem spot_of_cell {w : World} {a : Addr} {v : Value} (h : w.cell? a = some v) : a = ⟨a.block, a.off, none⟩ := by
  unfold World.cell? at h
  split at h
  · split at h
    · cases h
    · rename_i hs
      obtain ⟨b, o, s⟩ := a
      cases s with
      | none => rfl
      | some s => simp at hs
  · cases h
theorem Rd.of_cells {w : World} {size n : Nat} {a : Addr} {xs : List Value} (h0 : 0 < size) (hlen : xs.length = n * size) (hs : n ≤ 9223372036854775807) (hc : ∀ j, j < n * size → w.cell? (a.add j) = some (xs.getD j undef)) : Rd w size (some a) n xs := by
  rcases Nat.eq_zero_or_pos n with hn | hn
  · subst hn
    have : xs = [] := List.eq_nil_of_length_eq_zero (by simpa using hlen)
    subst this
    exact Rd.nil _ _ _
  · have h1 := hc 0 (Nat.mul_pos hn h0)
    have ha := spot_of_cell (a := a) (by simpa [Addr.add] using h1)
    refine ⟨hlen, .inr ⟨_, _, by rw [ha]⟩, hs, fun j hj => ?_⟩
    rw [← hc j hj]
    congr 1
    rw [ha, adr_some]
    by_cases hj0 : j = 0
    · subst hj0; simp [Addr.add]
    · simp [Addr.add, hj0]
section
variable {H : Type} {enc : TypeId × Value → H} {w : World} {base : Nat} {spare : Nat → Bool} {held : Bool}
theorem open_slice_fields {P : Program} {t e : TypeId} {fs : Array Field} {fuel : Nat} {cs : List Value} {x : DataW H × List MemPlace} (ht : P.underlying t = some (.slice e)) (he : P.underlying e = some (.struct fs))
    (hone : oneCellFields P fs = true) (hC : P.cellsOf e = fs.size) (h : DataW.trod enc P w base spare held fuel t cs = some x) :
    (cs = [.slice none 0 0]) ∨
    ∃ (a : Addr) (len cap : Nat), cs = [.slice (some a) len cap] ∧ len ≤ cap ∧ cap ≤ maxLen ∧
      ∀ i, i < len → ∀ (j : Nat) (f : Field), fs[j]? = some f → ∃ (v : Value) (y : DataW H × List MemPlace) (n : Nat), w.cell? (a.add (i * fs.size + j)) = some v ∧ DataW.trod enc P w base spare held n f.type [v] = some y := by
  rcases open_slice ht h with h0 | ⟨a, len, cap, m, n, D, Pl, hcs, hb, hl, hm, hmm, hx, hi⟩
  · exact .inl h0.1
  · refine .inr ⟨a, len, cap, hcs, hl, hm, fun i hil j f hj => ?_⟩
    obtain ⟨cs', hc, ht'⟩ := hi i (by rw [hmm]; split <;> omega)
    rw [hC] at hc
    obtain ⟨ys, n', hn', hy, hlen, hyl, hf⟩ := DataW.trod_struct he ht'
    obtain ⟨_, hcl, hat⟩ := World.cells?_some hc
    obtain ⟨ho, hk⟩ := hone_of hone j f hj
    have hjl : j < fs.size := (Array.getElem?_eq_some_iff.1 hj).1
    have hcell := hat j hjl
    have hv : cs'[j]? = some (cs'[j]'(by omega)) := List.getElem?_eq_getElem (by omega)
    have h1 := hf j f hj
    rw [ho, hk] at h1
    have hone' : (cs'.drop j).take 1 = [cs'[j]'(by omega)] := by
      rw [List.drop_eq_getElem_cons (by omega)]
      rfl
    rw [hone'] at h1
    have hys : ys[j]? = some (ys[j]'(by omega)) := List.getElem?_eq_getElem (by omega)
    refine ⟨_, _, _, ?_, h1.trans hys⟩
    rw [← Go.Deep.add_add, hcell, hv]
theorem open_edges {t : TypeId} {fuel : Nat} {v : Value} {x : DataW H × List MemPlace} (ht : Tryz.prog.underlying t = some (.slice 108)) (h : DataW.trod enc Tryz.prog w base spare held fuel t [v] = some x) :
    ∃ p n c E, v = .slice p n c ∧ Rd w 2 p n (encE E) := by
  rcases open_slice_fields ht Tryz.underlying108 (by kernel_rfl) (by kernel_rfl) h with h0 | ⟨a, len, cap, hcs, hl, hm, hi⟩
  · simp at h0; exact ⟨none, 0, 0, [], h0, Rd.nil _ _ _⟩
  · simp at hcs
    have hl2 : len ≤ 9223372036854775807 := by unfold maxLen at hm; omega
    have hE : ∀ i, i < len → ∃ e : Int × Int, w.cell? (a.add (i * 2)) = some (.int .i64 e.1) ∧ w.cell? (a.add (i * 2 + 1)) = some (.int .i64 e.2) := by
      intro i hil
      obtain ⟨v1, y1, n1, c1, t1⟩ := hi i hil 0 _ rfl
      obtain ⟨v2, y2, n2, c2, t2⟩ := hi i hil 1 _ rfl
      obtain ⟨k1, e1, _⟩ := DataW.trod_int Tryz.underlying3 t1
      obtain ⟨k2, e2, _⟩ := DataW.trod_int Tryz.underlying3 t2
      simp at e1 e2
      subst e1 e2
      exact ⟨(k1, k2), c1, c2⟩
    obtain ⟨E, hEl, hEc⟩ := exists_list hE
    refine ⟨some a, len, cap, E, hcs, Rd.of_cells (by decide) (by rw [encE_len, hEl]) hl2 fun j hj => ?_⟩
    have hd : j / 2 < len := by omega
    obtain ⟨g1, g2⟩ := encE_get E (j / 2) (by omega)
    obtain ⟨h1, h2⟩ := hEc (j / 2) hd
    have hm2 : j = j / 2 * 2 ∨ j = j / 2 * 2 + 1 := by omega
    rcases hm2 with e | e
    · rw [e, g1]; exact h1
    · rw [e, g2]; exact h2
theorem open_texts {t : TypeId} {fuel : Nat} {v : Value} {x : DataW H × List MemPlace} (ht : Tryz.prog.underlying t = some (.slice 9)) (h : DataW.trod enc Tryz.prog w base spare held fuel t [v] = some x) :
    ∃ p n c l, v = .slice p n c ∧ Rd w 1 p n (encS l) := by
  rcases open_slice ht h with h0 | ⟨a, len, cap, m, n, D, Pl, hcs, hb, hl, hm, hmm, hx, hi⟩
  · obtain ⟨h0, _⟩ := h0; simp at h0; exact ⟨none, 0, 0, [], h0, Rd.nil _ _ _⟩
  · simp at hcs
    have hl2 : len ≤ 9223372036854775807 := by unfold maxLen at hm; omega
    have hc1 : Tryz.prog.cellsOf 9 = 1 := by kernel_rfl
    rw [hc1] at hi
    have hS : ∀ i, i < len → ∃ s : ByteArray, w.cell? (a.add i) = some (.string s) := by
      intro i hil
      obtain ⟨cs', hc, ht'⟩ := hi i (by rw [hmm]; split <;> omega)
      obtain ⟨s, e1, _⟩ := DataW.trod_string Tryz.underlying9 ht'
      obtain ⟨_, hcl, hat⟩ := World.cells?_some hc
      have := hat 0 (by decide)
      rw [Go.Deep.add_add, Nat.mul_one, Nat.add_zero, e1] at this
      exact ⟨s, this⟩
    obtain ⟨l, hll, hlc⟩ := exists_list hS
    refine ⟨some a, len, cap, l, hcs, Rd.of_cells (by decide) (by rw [encS_len, hll, Nat.mul_one]) hl2 fun j hj => ?_⟩
    rw [encS_get l j (by omega)]
    exact hlc j (by omega)
theorem open_rows {t : TypeId} {fuel : Nat} {v : Value} {x : DataW H × List MemPlace} (ht : Tryz.prog.underlying t = some (.slice 22)) (h : DataW.trod enc Tryz.prog w base spare held fuel t [v] = some x) :
    ∃ p n c hs W, v = .slice p n c ∧ RdW w p n hs W := by
  rcases open_slice ht h with h0 | ⟨a, len, cap, m, n, D, Pl, hcs, hb, hl, hm, hmm, hx, hi⟩
  · obtain ⟨h0, _⟩ := h0; simp at h0; exact ⟨none, 0, 0, [], [], h0, rfl, Rd.nil _ _ _, fun j hj => by omega⟩
  · simp at hcs
    have hl2 : len ≤ 9223372036854775807 := by unfold maxLen at hm; omega
    have hc1 : Tryz.prog.cellsOf 22 = 1 := by kernel_rfl
    rw [hc1] at hi
    have hS : ∀ i, i < len → ∃ q : Hd × List ByteArray, w.cell? (a.add i) = some (.slice q.1.p q.1.n q.1.c) ∧ Rd w 1 q.1.p q.1.n (encS q.2) := by
      intro i hil
      obtain ⟨cs', hc, ht'⟩ := hi i (by rw [hmm]; split <;> omega)
      obtain ⟨_, hcl, hat⟩ := World.cells?_some hc
      match cs', hcl with
      | [u], _ =>
        obtain ⟨p, n', c', l, e1, hr⟩ := open_texts Tryz.underlying22 ht'
        have := hat 0 (by decide)
        rw [Go.Deep.add_add, Nat.mul_one, Nat.add_zero, e1] at this
        exact ⟨(⟨p, n', c'⟩, l), this, hr⟩
    obtain ⟨l, hll, hlc⟩ := exists_list hS
    have hm : ∀ i, i < len → nth (l.map (·.1)) i = (nth l i).1 ∧ nth (l.map (·.2)) i = (nth l i).2 := fun i hil => by
      rw [nth_eq (l := l.map (·.1)) (by rw [List.length_map]; omega), nth_eq (l := l.map (·.2)) (by rw [List.length_map]; omega), nth_eq (l := l) (by omega)]; simp
    refine ⟨some a, len, cap, l.map (·.1), l.map (·.2), hcs, by simp, Rd.of_cells (by decide) (by rw [encH_len, List.length_map, hll, Nat.mul_one]) hl2 fun j hj => ?_, fun j hj => ?_⟩
    · rw [encH_get _ j (by simp; omega), (hm j (by omega)).1]
      exact (hlc j (by omega)).1
    · rw [(hm j hj).1, (hm j hj).2]
      exact (hlc j hj).2
set_option maxRecDepth 100000 in
/-- a graph by value -/
theorem open_graph {r : Reach} {b0 : Nat} {v : Value} {d : DataW H} {p : List MemPlace} (hv : Value.okWide Tryz.prog w r b0 112 v) (h : DataW.Trod enc Tryz.prog w base spare held 112 v d p) :
    ∃ N pe ne ce pw nw cw E hs W, v = .agg #[.int .i64 N, .slice pe ne ce, .slice pw nw cw] ∧ Rd w 2 pe ne (encE E) ∧ RdW w pw nw hs W := by
  obtain ⟨v0, v1, v2, y0, y1, y2, n, rfl, _, _, t0, t1, t2⟩ := open_agg3 Tryz.underlying112 (by kernel_rfl) (by kernel_rfl) hv h
  obtain ⟨N, e0, _⟩ := DataW.trod_int Tryz.underlying3 t0
  simp at e0
  subst e0
  obtain ⟨pe, ne, ce, E, rfl, hE⟩ := open_edges Tryz.underlying109 t1
  obtain ⟨pw, nw, cw, hs, W, rfl, hW⟩ := open_rows Tryz.underlying110 t2
  exact ⟨N, pe, ne, ce, pw, nw, cw, E, hs, W, rfl, hE, hW⟩
end
end Go.Proofs.YtkekibnhmfmhmaaGreat
/- The last step of a law's row: the result is true, the arguments read as they did, where the call only made memory. -/
namespace Go.Proofs.YtkekibnhmfmhmaaGreat
open Go Go.RowKit Go.WideShapes Go.ChangeShapes
theorem own : ownKnob Tryz.prog.godebug = none := by kernel_rfl
theorem laidOut : laidOutB Tryz.prog = true := by kernel_rfl
set_option maxRecDepth 100000 in
/-- true comes back, the arguments stay: what is left to show is their reading -/
theorem law_post {H : Type} {enc : TypeId × Value → H} {f : Func} {s : ChangeSpec} {apart fresh handsOn again : Bool} {W W' : World} {args : Array Value} {ds : List (DataW H)} {before : List MemPlace}
    (hW : DataW.Whole enc Tryz.prog f.params.toList s.vars apart W args.toList ds [] before) (ht : f.resultTypes = #[4]) (hvars : s.vars = [])
    (hfn : s.fn H (ds ++ []) = { results := [.lit (.bool true)], args := ds })
    (hargs : ∀ sp : Nat → Bool, (∀ p ∈ before, sp p.block = true) → DataW.TrodAll enc Tryz.prog W' 0 sp true f.params.toList args.toList ds before)
    (hb : Below W.heap.size W W') : s.post enc Tryz.prog f apart fresh handsOn again W args (.bool true) W' := by
  have lits : ∀ (b : Nat) (sp : Nat → Bool) (hd : Bool), DataW.TrodAll enc Tryz.prog W' b sp hd f.resultTypes.toList ((Value.bool true).resultList f.resultTypes.size) (s.fn H (ds ++ [])).results [] := by
    intro b sp hd
    rw [hfn, ht]
    exact trodAll_mk1 (shut_bool Tryz.underlying4 true)
  have hold : ∀ sp : Nat → Bool, (∀ p ∈ before, sp p.block = true) → DataW.TrodAll enc Tryz.prog W' 0 sp true f.params.toList args.toList (s.fn H (ds ++ [])).args before := by
    intro sp hsp
    rw [hfn]; exact hargs sp hsp
  have hv : ∀ sp : Nat → Bool, DataW.TrodVars enc Tryz.prog W' sp s.vars (s.fn H (ds ++ [])).vars [] := by
    intro sp; rw [hfn, hvars]; rfl
  have hin : ∀ p ∈ before, p.block < W.heap.size := fun p hp => hW.lt p hp
  have same : before = before ++ [] := by simp
  refine ⟨ds, [], before, [], before, [], hW, lits _ _ _, hold _ (fun p hp => by simpa using hin p hp), hv _, World.keptBut_mono (fun p hp => ⟨hp, .inr (by simpa using hp)⟩) (hb.frame (· ∈ before)), fun _ => ?_⟩
  have hW2 := hW
  obtain ⟨_, _, _, _, _, hz, hn⟩ := hW2
  refine ⟨ok_one (by rw [ht]) rfl (okWide_bool_mk Tryz.underlying4 _), _, _, ([] ++ before) ++ [], ⟨[] ++ before, [], trodAll_append (hold _ (fun _ _ => rfl)) (lits _ _ _), hv _, rfl, ?_, ?_⟩, ?_⟩
  · intro b off hp
    have hp2 : MemPlace.cell b off ∈ before := by simpa using hp
    rw [hb.frozen (hin _ hp2)]
    exact hz b off hp2
  · intro ha
    simpa using hn ha
  · intro p hp _
    simpa using hp
/-- an argument's reading, carried behind the call -/
theorem stays {H : Type} {enc : TypeId × Value → H} {W W' : World} {t : TypeId} {v : Value} {d : DataW H} {ps : List MemPlace} (hr : Tryz.prog.readableRec t = true) (hrow : t < Tryz.prog.types.size) (h : DataW.Trod enc Tryz.prog W 0 (fun _ => true) true t v d ps)
    (hb : Below W.heap.size W W') (hlt : ∀ x ∈ ps, x.block < W.heap.size) {sp : Nat → Bool} (hsp : ∀ x ∈ ps, sp x.block = true) : DataW.Trod enc Tryz.prog W' 0 sp true t v d ps :=
  WideElems.Trod_stays laidOut hr hrow h (fun x hx => hb.same (hlt x hx)) hsp
/-- all readings, one by one -/
theorem trodAll_turn {H : Type} {enc : TypeId × Value → H} {P : Program} {W W' : World} {sp sp' : Nat → Bool} {hd : Bool} (ts : List TypeId) : ∀ {vs : List Value} {ds : List (DataW H)} {ps : List MemPlace}, DataW.TrodAll enc P W 0 sp hd ts vs ds ps →
    (∀ t ∈ ts, ∀ v d p, (∀ x ∈ p, x ∈ ps) → DataW.Trod enc P W 0 sp hd t v d p → DataW.Trod enc P W' 0 sp' hd t v d p) → DataW.TrodAll enc P W' 0 sp' hd ts vs ds ps := by
  induction ts with
  | nil =>
    intro vs ds ps h _
    obtain ⟨rfl, rfl, rfl⟩ := trodAll_nil h
    exact trodAll_mk0
  | cons t ts ih =>
    intro vs ds ps h hk
    obtain ⟨v, vs', d, ds', p, q, rfl, rfl, rfl, h1, h2⟩ := trodAll_cons h
    exact trodAll_cons_mk (hk t (by simp) v d p (fun x hx => by simp [hx]) h1) (ih h2 fun t' ht' v' d' p' hp' h' => hk t' (by simp [ht']) v' d' p' (fun x hx => by simp [hp' x hx]) h')
/-- all arguments' reading, carried behind the call -/
theorem stays_all {H : Type} {enc : TypeId × Value → H} {W W' : World} {ts : List TypeId} {vs : List Value} {ds : List (DataW H)} {ps : List MemPlace} (hr : ts.all (fun t => Tryz.prog.readableRec t && decide (t < Tryz.prog.types.size)) = true)
    (h : DataW.TrodAll enc Tryz.prog W 0 (fun _ => true) true ts vs ds ps) (hb : Below W.heap.size W W') (hlt : ∀ x ∈ ps, x.block < W.heap.size) {sp : Nat → Bool} (hsp : ∀ x ∈ ps, sp x.block = true) : DataW.TrodAll enc Tryz.prog W' 0 sp true ts vs ds ps :=
  trodAll_turn ts h fun t ht v d p hp h1 => by
    have h2 := List.all_eq_true.1 hr t ht
    rw [Bool.and_eq_true, decide_eq_true_eq] at h2
    exact stays h2.1 h2.2 h1 hb (fun x hx => hlt x (hp x hx)) (fun x hx => hsp x (hp x hx))
end Go.Proofs.YtkekibnhmfmhmaaGreat
/- Arguments that are rows of numbers, of texts, of postings: what they read. -/
namespace Go.Proofs.YtkekibnhmfmhmaaGreat
open Go Go.RowKit Go.ChangeShapes Go.WideShapes Go.ChangeAt Go.Deep Go.Joins
section
variable {H : Type} {enc : TypeId × Value → H} {w : World} {base : Nat} {spare : Nat → Bool} {held : Bool}
theorem trod_ints {t : TypeId} {fuel : Nat} {v : Value} {x : DataW H × List MemPlace} (ht : Tryz.prog.underlying t = some (.slice 3)) (h : DataW.trod enc Tryz.prog w base spare held fuel t [v] = some x) :
    ∃ p n c l, v = .slice p n c ∧ n ≤ c ∧ Rd w 1 p n (encI l) ∧ ∀ x ∈ l, I64 x := by
  rcases open_slice ht h with h0 | ⟨a, len, cap, m, n, D, Pl, hcs, hb, hl, hm, hmm, hx, hi⟩
  · obtain ⟨h0, _⟩ := h0; simp at h0; exact ⟨none, 0, 0, [], h0, Nat.le_refl _, Rd.nil _ _ _, fun x hx => nomatch hx⟩
  · simp at hcs
    have hl2 : len ≤ 9223372036854775807 := by unfold maxLen at hm; omega
    have hc1 : Tryz.prog.cellsOf 3 = 1 := by kernel_rfl
    rw [hc1] at hi
    have hS : ∀ i, i < len → ∃ s : Int, w.cell? (a.add i) = some (.int .i64 s) ∧ I64 s := by
      intro i hil
      obtain ⟨cs', hc, ht'⟩ := hi i (by rw [hmm]; split <;> omega)
      obtain ⟨s, e1, _, hw⟩ := DataW.trod_int Tryz.underlying3 ht'
      obtain ⟨_, hcl, hat⟩ := World.cells?_some hc
      have := hat 0 (by decide)
      rw [Go.Deep.add_add, Nat.mul_one, Nat.add_zero, e1] at this
      exact ⟨s, this, hw⟩
    obtain ⟨l, hll, hlc⟩ := exists_list hS
    refine ⟨some a, len, cap, l, hcs, hl, Rd.of_cells (by decide) (by rw [encI_len, hll, Nat.mul_one]) hl2 fun j hj => ?_, fun x hx => ?_⟩
    · rw [encI_get l j (by omega)]
      exact (hlc j (by omega)).1
    · obtain ⟨j, hj, rfl⟩ := List.mem_iff_getElem.1 hx
      rw [← nth_eq hj]
      exact (hlc j (by omega)).2
theorem trod_texts {t : TypeId} {fuel : Nat} {v : Value} {x : DataW H × List MemPlace} (ht : Tryz.prog.underlying t = some (.slice 9)) (h : DataW.trod enc Tryz.prog w base spare held fuel t [v] = some x) :
    ∃ p n c l, v = .slice p n c ∧ n ≤ c ∧ Rd w 1 p n (encS l) := by
  obtain ⟨p, n, c, l, rfl, hr⟩ := open_texts ht h
  refine ⟨p, n, c, l, rfl, ?_, hr⟩
  rcases open_slice ht h with h0 | ⟨a, len, cap, m, n', D, Pl, hcs, hb, hl, _⟩
  · obtain ⟨h0, _⟩ := h0; simp at h0; omega
  · simp at hcs; omega
set_option maxRecDepth 100000 in
theorem trod_postings {t : TypeId} {fuel : Nat} {v : Value} {x : DataW H × List MemPlace} (ht : Tryz.prog.underlying t = some (.slice 98)) (h : DataW.trod enc Tryz.prog w base spare held fuel t [v] = some x) :
    ∃ p n c hs L, v = .slice p n c ∧ n ≤ c ∧ RdP w p n hs L ∧ ∀ q ∈ L, ∀ x ∈ q.2, I64 x := by
  rcases open_slice_fields ht Tryz.underlying98 (by kernel_rfl) (by kernel_rfl) h with h0 | ⟨a, len, cap, hcs, hl, hm, hi⟩
  · simp at h0; exact ⟨none, 0, 0, [], [], h0, Nat.le_refl _, ⟨rfl, .inl rfl, by omega, fun k hk => by omega, fun k hk => by omega, fun k hk => by omega⟩, fun q hq => nomatch hq⟩
  · simp at hcs
    have hl2 : len ≤ 9223372036854775807 := by unfold maxLen at hm; omega
    have hE : ∀ i, i < len → ∃ e : (ByteArray × List Int) × Hd, w.cell? (a.add (i * 2)) = some (.string e.1.1) ∧ w.cell? (a.add (i * 2 + 1)) = some (.slice e.2.p e.2.n e.2.c) ∧ Rd w 1 e.2.p e.2.n (encI e.1.2) ∧ ∀ x ∈ e.1.2, I64 x := by
      intro i hil
      obtain ⟨v1, y1, n1, c1, t1⟩ := hi i hil 0 _ rfl
      obtain ⟨v2, y2, n2, c2, t2⟩ := hi i hil 1 _ rfl
      obtain ⟨s, e1, _⟩ := DataW.trod_string Tryz.underlying9 t1
      obtain ⟨p, n', c', l, e2, _, hr, hI⟩ := trod_ints Tryz.underlying39 t2
      simp at e1
      subst e1 e2
      exact ⟨((s, l), ⟨p, n', c'⟩), c1, c2, hr, hI⟩
    obtain ⟨E, hEl, hEc⟩ := exists_list hE
    have hm : ∀ i, i < len → nth (E.map (·.1)) i = (nth E i).1 ∧ nth (E.map (·.2)) i = (nth E i).2 := fun i hil => by
      rw [nth_eq (l := E.map (·.1)) (by rw [List.length_map]; omega), nth_eq (l := E.map (·.2)) (by rw [List.length_map]; omega), nth_eq (l := E) (by omega)]; simp
    have hptr : SlP (some a) len := by
      rcases Nat.eq_zero_or_pos len with h0 | h0
      · exact .inl h0
      · have h1 := (hEc 0 h0).1
        exact .inr ⟨_, _, by rw [spot_of_cell (a := a) (by simpa [Addr.add] using h1)]⟩
    have hadr : ∀ i j, i < len → a.add (i * 2 + j) = adr (some a) (i * 2 + j) := by
      intro i j hil
      have h1 := (hEc 0 (by omega)).1
      have ha := spot_of_cell (a := a) (by simpa [Addr.add] using h1)
      generalize i * 2 + j = m
      rw [ha, adr_some]
      by_cases hj0 : m = 0
      · rw [hj0]; simp [Addr.add]
      · simp [Addr.add, hj0]
    refine ⟨some a, len, cap, E.map (·.2), E.map (·.1), hcs, hl, ⟨by simp [hEl], hptr, hl2, fun k hk => ?_, fun k hk => ?_, fun k hk => ?_⟩, fun q hq => ?_⟩
    · rw [(hm k hk).1, ← Nat.add_zero (k * 2), ← hadr k 0 hk]; exact (hEc k hk).1
    · rw [(hm k hk).2, ← hadr k 1 hk]; exact (hEc k hk).2.1
    · rw [(hm k hk).1, (hm k hk).2]; exact (hEc k hk).2.2.1
    · obtain ⟨e, he, rfl⟩ := List.mem_map.1 hq
      obtain ⟨j, hj, rfl⟩ := List.mem_iff_getElem.1 he
      rw [← nth_eq hj]
      exact (hEc j (by omega)).2.2.2
set_option maxRecDepth 100000 in
theorem open_top {t e : TypeId} {r : Reach} {b0 : Nat} {v : Value} {d : DataW H} {p : List MemPlace} (ht : Tryz.prog.underlying t = some (.slice e)) (hv : Value.okWide Tryz.prog w r b0 t v) (h : DataW.Trod enc Tryz.prog w base spare held t v d p) :
    ∃ fuel, DataW.trod enc Tryz.prog w base spare held fuel t [v] = some (d, p) := by
  obtain ⟨a, n, c, rfl⟩ := okWide_slice ht hv
  exact h
set_option maxRecDepth 100000 in
theorem open_introw {r : Reach} {b0 : Nat} {v : Value} {d : DataW H} {p : List MemPlace} (hv : Value.okWide Tryz.prog w r b0 39 v) (h : DataW.Trod enc Tryz.prog w base spare held 39 v d p) :
    ∃ p n c l, v = .slice p n c ∧ n ≤ c ∧ Rd w 1 p n (encI l) ∧ ∀ x ∈ l, I64 x := by
  obtain ⟨f, hf⟩ := open_top Tryz.underlying39 hv h
  exact trod_ints Tryz.underlying39 hf
set_option maxRecDepth 100000 in
theorem open_textrow {r : Reach} {b0 : Nat} {v : Value} {d : DataW H} {p : List MemPlace} (hv : Value.okWide Tryz.prog w r b0 22 v) (h : DataW.Trod enc Tryz.prog w base spare held 22 v d p) :
    ∃ p n c l, v = .slice p n c ∧ n ≤ c ∧ Rd w 1 p n (encS l) := by
  obtain ⟨f, hf⟩ := open_top Tryz.underlying22 hv h
  exact trod_texts Tryz.underlying22 hf
set_option maxRecDepth 100000 in
theorem open_postings {r : Reach} {b0 : Nat} {v : Value} {d : DataW H} {p : List MemPlace} (hv : Value.okWide Tryz.prog w r b0 25 v) (h : DataW.Trod enc Tryz.prog w base spare held 25 v d p) :
    ∃ p n c hs L, v = .slice p n c ∧ n ≤ c ∧ RdP w p n hs L ∧ ∀ q ∈ L, ∀ x ∈ q.2, I64 x := by
  obtain ⟨f, hf⟩ := open_top Tryz.underlying25 hv h
  exact trod_postings Tryz.underlying25 hf
end
end Go.Proofs.YtkekibnhmfmhmaaGreat
/- Arguments that are queries, states, messages: what they read. -/
namespace Go.Proofs.YtkekibnhmfmhmaaGreat
open Go Go.RowKit Go.ChangeShapes Go.WideShapes Go.ChangeAt Go.Deep Go.Joins
/-- numbers that ints hold -/
def Sq.I (x : Sq) : Prop := I64 x.s ∧ I64 x.r ∧ I64 x.v ∧ I64 x.d
section
variable {H : Type} {enc : TypeId × Value → H} {w : World} {base : Nat} {spare : Nat → Bool} {held : Bool}
set_option maxRecDepth 100000 in
theorem trod_Key {fuel : Nat} {cs : List Value} {x : DataW H × List MemPlace} (h : DataW.trod enc Tryz.prog w base spare held fuel 43 cs = some x) : ∃ a b c : Int, cs = [.int .i64 a, .int .i64 b, .int .i64 c] ∧ I64 a ∧ I64 b ∧ I64 c := by
  obtain ⟨xs, n, _, _, hl, hx, hg⟩ := DataW.trod_struct Tryz.underlying43 h
  have hc : Tryz.prog.cellsOf 43 = 3 := by kernel_rfl
  have hi : Tryz.prog.cellsOf 3 = 1 := by kernel_rfl
  rw [hc] at hl
  match cs, hl, xs, hx with
  | [c0, c1, c2], _, [y0, y1, y2], _ =>
    have t0 : DataW.trod enc Tryz.prog w base spare held n 3 [c0] = some y0 := by simpa [hi] using hg 0 _ rfl
    have t1 : DataW.trod enc Tryz.prog w base spare held n 3 [c1] = some y1 := by simpa [hi] using hg 1 _ rfl
    have t2 : DataW.trod enc Tryz.prog w base spare held n 3 [c2] = some y2 := by simpa [hi] using hg 2 _ rfl
    obtain ⟨a, e0, _, i0⟩ := DataW.trod_int Tryz.underlying3 t0
    obtain ⟨b, e1, _, i1⟩ := DataW.trod_int Tryz.underlying3 t1
    obtain ⟨c, e2, _, i2⟩ := DataW.trod_int Tryz.underlying3 t2
    simp at e0 e1 e2
    subst e0 e1 e2
    exact ⟨a, b, c, rfl, i0, i1, i2⟩
set_option maxRecDepth 100000 in
theorem trod_State {fuel : Nat} {cs : List Value} {x : DataW H × List MemPlace} (h : DataW.trod enc Tryz.prog w base spare held fuel 45 cs = some x) : ∃ q : Sq, cs = [.int .i64 q.s, .int .i64 q.r, .int .i64 q.v, .int .i64 q.d] ∧ q.I := by
  obtain ⟨xs, n, _, _, hl, hx, hg⟩ := DataW.trod_struct Tryz.underlying45 h
  have hc : Tryz.prog.cellsOf 45 = 4 := by kernel_rfl
  have hk : Tryz.prog.cellsOf 43 = 3 := by kernel_rfl
  have hi : Tryz.prog.cellsOf 3 = 1 := by kernel_rfl
  rw [hc] at hl
  match cs, hl, xs, hx with
  | [c0, c1, c2, c3], _, [y0, y1], _ =>
    have t0 : DataW.trod enc Tryz.prog w base spare held n 43 [c0, c1, c2] = some y0 := by simpa [hk] using hg 0 _ rfl
    have t1 : DataW.trod enc Tryz.prog w base spare held n 3 [c3] = some y1 := by simpa [hi] using hg 1 _ rfl
    obtain ⟨a, b, c, e0, i0, i1, i2⟩ := trod_Key t0
    obtain ⟨d, e1, _, i3⟩ := DataW.trod_int Tryz.underlying3 t1
    simp at e0 e1
    obtain ⟨rfl, rfl, rfl⟩ := e0
    subst e1
    exact ⟨⟨a, b, c, d⟩, rfl, i0, i1, i2, i3⟩
set_option maxRecDepth 100000 in
theorem trod_Mail {fuel : Nat} {cs : List Value} {x : DataW H × List MemPlace} (h : DataW.trod enc Tryz.prog w base spare held fuel 81 cs = some x) : ∃ q : Sq, cs = [.int .i64 q.s, .int .i64 q.r, .int .i64 q.v, .int .i64 q.d] ∧ q.I := by
  obtain ⟨xs, n, _, _, hl, hx, hg⟩ := DataW.trod_struct Tryz.underlying81 h
  have hc : Tryz.prog.cellsOf 81 = 4 := by kernel_rfl
  have hk : Tryz.prog.cellsOf 43 = 3 := by kernel_rfl
  have hi : Tryz.prog.cellsOf 3 = 1 := by kernel_rfl
  rw [hc] at hl
  match cs, hl, xs, hx with
  | [c0, c1, c2, c3], _, [y0, y1], _ =>
    have t0 : DataW.trod enc Tryz.prog w base spare held n 43 [c0, c1, c2] = some y0 := by simpa [hk] using hg 0 _ rfl
    have t1 : DataW.trod enc Tryz.prog w base spare held n 3 [c3] = some y1 := by simpa [hi] using hg 1 _ rfl
    obtain ⟨a, b, c, e0, i0, i1, i2⟩ := trod_Key t0
    obtain ⟨d, e1, _, i3⟩ := DataW.trod_int Tryz.underlying3 t1
    simp at e0 e1
    obtain ⟨rfl, rfl, rfl⟩ := e0
    subst e1
    exact ⟨⟨a, b, c, d⟩, rfl, i0, i1, i2, i3⟩
set_option maxRecDepth 100000 in
theorem open_State {r : Reach} {b0 : Nat} {v : Value} {d : DataW H} {p : List MemPlace} (hv : Value.okWide Tryz.prog w r b0 45 v) (h : DataW.Trod enc Tryz.prog w base spare held 45 v d p) : ∃ q : Sq, v = .agg #[.int .i64 q.s, .int .i64 q.r, .int .i64 q.v, .int .i64 q.d] ∧ q.I := by
  obtain ⟨cs, rfl, hsz⟩ := okWide_struct Tryz.underlying45 hv
  obtain ⟨fuel, hf⟩ := h
  obtain ⟨q, e, hq⟩ := trod_State hf
  refine ⟨q, ?_, hq⟩
  obtain ⟨l⟩ := cs
  simp [Value.cells] at e
  rw [e]
theorem adr_of_cell {a : Addr} {v : Value} {m : Nat} (h : w.cell? a = some v) : a.add m = adr (some a) m := by
  have ha := spot_of_cell h
  rw [ha, adr_some]
  by_cases hj0 : m = 0
  · rw [hj0]; simp [Addr.add]
  · simp [Addr.add, hj0]
set_option maxRecDepth 100000 in
theorem trod_States {t : TypeId} {fuel : Nat} {v : Value} {x : DataW H × List MemPlace} (ht : Tryz.prog.underlying t = some (.slice 45)) (h : DataW.trod enc Tryz.prog w base spare held fuel t [v] = some x) : ∃ p n c l, v = .slice p n c ∧ n ≤ c ∧ Rd w 4 p n (encQ l) ∧ ∀ q ∈ l, q.I := by
  rcases open_slice ht h with h0 | ⟨a, len, cap, m, n, D, Pl, hcs, hb, hl, hm, hmm, hx, hi⟩
  · obtain ⟨h0, _⟩ := h0; simp at h0; exact ⟨none, 0, 0, [], h0, Nat.le_refl _, Rd.nil _ _ _, fun x hx => nomatch hx⟩
  · simp at hcs
    have hl2 : len ≤ 9223372036854775807 := by unfold maxLen at hm; omega
    have hc1 : Tryz.prog.cellsOf 45 = 4 := by kernel_rfl
    rw [hc1] at hi
    have hS : ∀ i, i < len → ∃ q : Sq, (w.cell? (a.add (i * 4)) = some (.int .i64 q.s) ∧ w.cell? (a.add (i * 4 + 1)) = some (.int .i64 q.r) ∧ w.cell? (a.add (i * 4 + 2)) = some (.int .i64 q.v) ∧ w.cell? (a.add (i * 4 + 3)) = some (.int .i64 q.d)) ∧ q.I := by
      intro i hil
      obtain ⟨cs', hc, ht'⟩ := hi i (by rw [hmm]; split <;> omega)
      obtain ⟨q, e1, hq⟩ := trod_State ht'
      obtain ⟨_, hcl, hat⟩ := World.cells?_some hc
      subst e1
      have h0 := hat 0 (by decide)
      have h1 := hat 1 (by decide)
      have h2 := hat 2 (by decide)
      have h3 := hat 3 (by decide)
      rw [Go.Deep.add_add] at h0 h1 h2 h3
      exact ⟨q, ⟨h0, h1, h2, h3⟩, hq⟩
    obtain ⟨l, hll, hlc⟩ := exists_list hS
    refine ⟨some a, len, cap, l, hcs, hl, Rd.of_cells (by decide) (by rw [encQ_len, hll]) hl2 fun j hj => ?_, fun x hx => ?_⟩
    · have hd : j / 4 < len := by omega
      obtain ⟨g1, g2, g3, g4⟩ := encQ_get l (j / 4) (by omega)
      obtain ⟨⟨h1, h2, h3, h4⟩, _⟩ := hlc (j / 4) hd
      have hm2 : j = j / 4 * 4 ∨ j = j / 4 * 4 + 1 ∨ j = j / 4 * 4 + 2 ∨ j = j / 4 * 4 + 3 := by omega
      rcases hm2 with e | e | e | e
      · rw [e, g1]; exact h1
      · rw [e, g2]; exact h2
      · rw [e, g3]; exact h3
      · rw [e, g4]; exact h4
    · obtain ⟨j, hj, rfl⟩ := List.mem_iff_getElem.1 hx
      rw [← nth_eq hj]
      exact (hlc j (by omega)).2
set_option maxRecDepth 100000 in
theorem trod_Mails {t : TypeId} {fuel : Nat} {v : Value} {x : DataW H × List MemPlace} (ht : Tryz.prog.underlying t = some (.slice 81)) (h : DataW.trod enc Tryz.prog w base spare held fuel t [v] = some x) : ∃ p n c l, v = .slice p n c ∧ n ≤ c ∧ Rd w 4 p n (encQ l) ∧ ∀ q ∈ l, q.I := by
  rcases open_slice ht h with h0 | ⟨a, len, cap, m, n, D, Pl, hcs, hb, hl, hm, hmm, hx, hi⟩
  · obtain ⟨h0, _⟩ := h0; simp at h0; exact ⟨none, 0, 0, [], h0, Nat.le_refl _, Rd.nil _ _ _, fun x hx => nomatch hx⟩
  · simp at hcs
    have hl2 : len ≤ 9223372036854775807 := by unfold maxLen at hm; omega
    have hc1 : Tryz.prog.cellsOf 81 = 4 := by kernel_rfl
    rw [hc1] at hi
    have hS : ∀ i, i < len → ∃ q : Sq, (w.cell? (a.add (i * 4)) = some (.int .i64 q.s) ∧ w.cell? (a.add (i * 4 + 1)) = some (.int .i64 q.r) ∧ w.cell? (a.add (i * 4 + 2)) = some (.int .i64 q.v) ∧ w.cell? (a.add (i * 4 + 3)) = some (.int .i64 q.d)) ∧ q.I := by
      intro i hil
      obtain ⟨cs', hc, ht'⟩ := hi i (by rw [hmm]; split <;> omega)
      obtain ⟨q, e1, hq⟩ := trod_Mail ht'
      obtain ⟨_, hcl, hat⟩ := World.cells?_some hc
      subst e1
      have h0 := hat 0 (by decide)
      have h1 := hat 1 (by decide)
      have h2 := hat 2 (by decide)
      have h3 := hat 3 (by decide)
      rw [Go.Deep.add_add] at h0 h1 h2 h3
      exact ⟨q, ⟨h0, h1, h2, h3⟩, hq⟩
    obtain ⟨l, hll, hlc⟩ := exists_list hS
    refine ⟨some a, len, cap, l, hcs, hl, Rd.of_cells (by decide) (by rw [encQ_len, hll]) hl2 fun j hj => ?_, fun x hx => ?_⟩
    · have hd : j / 4 < len := by omega
      obtain ⟨g1, g2, g3, g4⟩ := encQ_get l (j / 4) (by omega)
      obtain ⟨⟨h1, h2, h3, h4⟩, _⟩ := hlc (j / 4) hd
      have hm2 : j = j / 4 * 4 ∨ j = j / 4 * 4 + 1 ∨ j = j / 4 * 4 + 2 ∨ j = j / 4 * 4 + 3 := by omega
      rcases hm2 with e | e | e | e
      · rw [e, g1]; exact h1
      · rw [e, g2]; exact h2
      · rw [e, g3]; exact h3
      · rw [e, g4]; exact h4
    · obtain ⟨j, hj, rfl⟩ := List.mem_iff_getElem.1 hx
      rw [← nth_eq hj]
      exact (hlc j (by omega)).2
set_option maxRecDepth 100000 in
theorem open_States {r : Reach} {b0 : Nat} {v : Value} {d : DataW H} {p : List MemPlace} (hv : Value.okWide Tryz.prog w r b0 26 v) (h : DataW.Trod enc Tryz.prog w base spare held 26 v d p) : ∃ p n c l, v = .slice p n c ∧ n ≤ c ∧ Rd w 4 p n (encQ l) ∧ ∀ q ∈ l, q.I := by
  obtain ⟨f, hf⟩ := open_top Tryz.underlying26 hv h
  exact trod_States Tryz.underlying26 hf
set_option maxRecDepth 100000 in
theorem open_Mails {r : Reach} {b0 : Nat} {v : Value} {d : DataW H} {p : List MemPlace} (hv : Value.okWide Tryz.prog w r b0 27 v) (h : DataW.Trod enc Tryz.prog w base spare held 27 v d p) : ∃ p n c l, v = .slice p n c ∧ n ≤ c ∧ Rd w 4 p n (encQ l) ∧ ∀ q ∈ l, q.I := by
  obtain ⟨f, hf⟩ := open_top Tryz.underlying27 hv h
  exact trod_Mails Tryz.underlying27 hf
set_option maxRecDepth 100000 in
/-- a query by value -/
theorem open_query {r : Reach} {b0 : Nat} {v : Value} {d : DataW H} {p : List MemPlace} (hv : Value.okWide Tryz.prog w r b0 24 v) (h : DataW.Trod enc Tryz.prog w base spare held 24 v d p) :
    ∃ k f t pw nw cw ws rad most, v = .agg #[.int .i64 k, .int .i64 f, .int .i64 t, .slice pw nw cw, .int .i64 rad, .int .i64 most] ∧ nw ≤ cw ∧ Rd w 1 pw nw (encS ws) ∧ (I64 k ∧ I64 f ∧ I64 t) ∧ I64 rad ∧ I64 most := by
  obtain ⟨cs, rfl, hsz⟩ := okWide_struct Tryz.underlying24 hv
  obtain ⟨fuel, hf⟩ := h
  obtain ⟨xs, n, _, _, hl, hx, hg⟩ := DataW.trod_struct Tryz.underlying24 hf
  have hc : Tryz.prog.cellsOf 24 = 6 := by kernel_rfl
  have hi : Tryz.prog.cellsOf 3 = 1 := by kernel_rfl
  have hs : Tryz.prog.cellsOf 22 = 1 := by kernel_rfl
  rw [hc] at hsz
  obtain ⟨l⟩ := cs
  match l, hsz, xs, hx with
  | [c0, c1, c2, c3, c4, c5], _, [y0, y1, y2, y3, y4, y5], _ =>
    have t0 : DataW.trod enc Tryz.prog w base spare held n 3 [c0] = some y0 := by simpa [hi, Value.cells] using hg 0 _ rfl
    have t1 : DataW.trod enc Tryz.prog w base spare held n 3 [c1] = some y1 := by simpa [hi, Value.cells] using hg 1 _ rfl
    have t2 : DataW.trod enc Tryz.prog w base spare held n 3 [c2] = some y2 := by simpa [hi, Value.cells] using hg 2 _ rfl
    have t3 : DataW.trod enc Tryz.prog w base spare held n 22 [c3] = some y3 := by simpa [hs, Value.cells] using hg 3 _ rfl
    have t4 : DataW.trod enc Tryz.prog w base spare held n 3 [c4] = some y4 := by simpa [hi, Value.cells] using hg 4 _ rfl
    have t5 : DataW.trod enc Tryz.prog w base spare held n 3 [c5] = some y5 := by simpa [hi, Value.cells] using hg 5 _ rfl
    obtain ⟨a0, e0, _, i0⟩ := DataW.trod_int Tryz.underlying3 t0
    obtain ⟨a1, e1, _, i1⟩ := DataW.trod_int Tryz.underlying3 t1
    obtain ⟨a2, e2, _, i2⟩ := DataW.trod_int Tryz.underlying3 t2
    obtain ⟨pw, nw, cw, ws, rfl, hn, hr⟩ := trod_texts Tryz.underlying22 t3
    obtain ⟨a4, e4, _, i4⟩ := DataW.trod_int Tryz.underlying3 t4
    obtain ⟨a5, e5, _, i5⟩ := DataW.trod_int Tryz.underlying3 t5
    simp at e0 e1 e2 e4 e5
    subst e0 e1 e2 e4 e5
    exact ⟨a0, a1, a2, pw, nw, cw, ws, a4, a5, rfl, hn, hr, ⟨i0, i1, i2⟩, i4, i5⟩
end
end Go.Proofs.YtkekibnhmfmhmaaGreat
/- An argument that is rows, opened. -/
namespace Go.Proofs.YtkekibnhmfmhmaaGreat
open Go Go.RowKit Go.ChangeShapes Go.WideShapes Go.ChangeAt Go.Deep Go.Joins
section
variable {H : Type} {enc : TypeId × Value → H} {w : World} {base : Nat} {spare : Nat → Bool} {held : Bool}
set_option maxRecDepth 100000 in
theorem open_rowsarg {r : Reach} {b0 : Nat} {v : Value} {d : DataW H} {p : List MemPlace} (hv : Value.okWide Tryz.prog w r b0 41 v) (h : DataW.Trod enc Tryz.prog w base spare held 41 v d p) :
    ∃ po no co O pt nt ct T pr nr cr R pv nv cv V, v = .agg #[.slice po no co, .slice pt nt ct, .slice pr nr cr, .slice pv nv cv] ∧ Rd w 1 po no (encI O) ∧ Rd w 1 pt nt (encI T) ∧ Rd w 1 pr nr (encI R) ∧ Rd w 1 pv nv (encI V) ∧ no ≤ co ∧ nt ≤ ct ∧ nr ≤ cr ∧ nv ≤ cv := by
  obtain ⟨v0, v1, v2, v3, y0, y1, y2, y3, n, rfl, _, _, t0, t1, t2, t3⟩ := open_agg4 Tryz.underlying41 (by kernel_rfl) (by kernel_rfl) hv h
  obtain ⟨po, no, co, O, rfl, c0, h0, _⟩ := trod_ints Tryz.underlying39 t0
  obtain ⟨pt, nt, ct, T, rfl, c1, h1, _⟩ := trod_ints Tryz.underlying39 t1
  obtain ⟨pr, nr, cr, R, rfl, c2, h2, _⟩ := trod_ints Tryz.underlying39 t2
  obtain ⟨pv, nv, cv, V, rfl, c3, h3, _⟩ := trod_ints Tryz.underlying39 t3
  exact ⟨po, no, co, O, pt, nt, ct, T, pr, nr, cr, R, pv, nv, cv, V, rfl, h0, h1, h2, h3, c0, c1, c2, c3⟩
end
end Go.Proofs.YtkekibnhmfmhmaaGreat
