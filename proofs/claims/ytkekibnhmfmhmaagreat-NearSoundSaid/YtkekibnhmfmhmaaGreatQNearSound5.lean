/- Texts of this claim, one behind the other: Lev7s, Lev7t, Nr4, Nr5, Nr6, Nr7, ExN, Far9, Dst8c, Dst8d, Dst8e, Dst8f, Dst8g, Dst9a, PlainNw, LSound9, Open, Post, Open5, Open4. -/
import Derived.ProofKit
import Derived.Deep.Slices
import Derived.Deep.Fields
import Derived.ChangeSame
import Derived.Lib.SmallJoins
import Derived.Below
import Derived.Carry
import Derived.OpenShut
import Derived.Test.YtkekibnhmfmhmaaGreatProg
import Derived.Test.YtkekibnhmfmhmaaGreatQNearSound4
/- The reference's Levels: levels are lowered edge by edge. -/
namespace Go.Proofs.YtkekibnhmfmhmaaGreat
open Go Go.RowKit
set_option maxRecDepth 100000 in
set_option maxHeartbeats 8000000 in
theorem Levels07_yes (po : Option Addr) (no co : Nat) (O : List Int) (pt : Option Addr) (nt ct : Nat) (T : List Int) (pr : Option Addr) (nr cr : Nat) (R : List Int) (pv : Option Addr) (nv cv : Nat) (V : List Int) (w : World) (n s : Nat) (back : Bool) (hO : Rd w 1 po no (encI O)) (hT : Rd w 1 pt nt (encI T)) (hR : Rd w 1 pr nr (encI R)) (hV : Rd w 1 pv nv (encI V)) (hct : nt ≤ ct) (hcv : nv ≤ cv) (hck : checkR O T R V = true) (hno : O.length = n + 1) (hs : s < n) :
    Calls Tryz.prog 70 #[.agg #[.slice po no co, .slice pt nt ct, .slice pr nr cr, .slice pv nv cv], .int .i64 s, .bool back] w fun e w' => ∃ q c, e = .returned (.tuple #[.slice q n c, .int .i64 0]) ∧ Sep w w' [.own 3 1 q n c (encI ((List.range n).map fun v => lev (nxR back O T R V) n s v))] := by
  obtain ⟨i0, hi0, hz0, hz1, hz2⟩ := info_parts infI
  have S0 := Lib.hid ((Sep.start w).al #[.slice po no co, .slice pt nt ct, .slice pr nr cr, .slice pv nv cv] 41 w.heap.size rfl)
  have HE := Lib.hid (fun W1 (h : Ext w W1) => edges07 po no co O pt nt ct T pr nr cr R pv nv cv V W1 back (hO.ext h) (hT.ext h) (hR.ext h) (hV.ext h) hct hcv)
  rw [hck] at HE
  have HE2 : Hid (∀ W1, Ext w W1 → Calls Tryz.prog 98 #[.agg #[.slice po no co, .slice pt nt ct, .slice pr nr cr, .slice pv nv cv], .bool back] W1 fun e w' => ∃ q c, e = .returned (.tuple #[.slice q (edgD back O T).length c, .int .i64 0]) ∧ Sep W1 w' [.own 108 2 q (edgD back O T).length c (encE (edgD back O T))]) := HE.out
  have h1 := (checkR_half hck).2.2.1
  have r := offB_parts (halfB_off h1)
  have hn : n ≤ 200 := by omega
  have l1 := hO.nI
  obtain rfl : no = n + 1 := by omega
  have hbd := edgD_bd h1 back
  have hmem := edgD_mem hck back
  have hml := edgD_len h1 back
  rw [hno, Nat.add_sub_cancel] at hbd hmem
  have HFIN : Hid (bfN (edgD back O T) (bf0 n s) n = (List.range n).map fun v => lev (nxR back O T R V) n s v) := bfN_lev hs hbd hmem (bf0_low hs) (by rw [bf0_nth hs s hs, if_pos rfl])
  have HBD := Lib.hid hbd
  generalize edgD back O T = l at *
  clear hO hT hR hV hck hno h1 r l1 hbd hmem HE
  have d1 : decide ((s:Int) < 0) = false := by simp
  have d2 : decide ((n:Int) ≤ s) = false := by simp; omega
  have d3 : decide (n ≤ s) = false := by simp; omega
  go_enter Tryz.func70, Tryz.ntmps70
  go_wp2_with (first
    | (at_make; go_must (refine wpList_make_sep rfl _ _ _ rfl 3 i0 _ 1 Tryz.underlying39 hi0 hz0 hz1 (n:Int) n rfl rfl rfl (by rw [hz2]; omega) (by unfold maxLen; omega) S1.out ?_; intro w2 S'; rw [made_encI] at S'; have S2 := Lib.hid S'; clear S'))
    | (go_at_call 98; go_must (refine (HE2.out _ S0.out.ext).mono ?_; rintro e w1 ⟨q1, c1, rfl, Z⟩; have S1 := Lib.hid (S0.out.comp Z); have az := (S1.out.blk 1 rfl).lt; have a0 := (S1.out.blk 1 rfl).cell 0; have a1 := (S1.out.blk 1 rfl).cell 1; have a2 := (S1.out.blk 1 rfl).cell 2; have a3 := (S1.out.blk 1 rfl).cell 3; clear Z)))
  generalize hql : (some ⟨w1.heap.size, 0, none⟩ : Option Addr) = qo at *
  clear hql S1 S0 a0 a1 a2 a3 az
  go_loopw [12] (fun v wr => ∃ k : Nat, k ≤ n ∧ v = .int .i64 k ∧ Sep w wr [.own 3 1 qo n n (encI (List.replicate k (-1) ++ List.replicate (n - k) 0)), .own 108 2 q1 l.length c1 (encE l), .blk w.heap.size 41 #[.slice po (n + 1) co, .slice pt nt ct, .slice pr nr cr, .slice pv nv cv]]) (fun v _ => n - (intOf v).toNat)
  case atStart => exact ⟨0, Nat.zero_le _, rfl, S2.out⟩
  case round =>
    clear S2
    obtain ⟨k, hk, rfl, S⟩ := hrel
    have pz := (S.rd 0 rfl (by omega)).ptr
    have fz := own_frozen (S.own 0 rfl) (by omega) k
    by_cases hlt : k < n
    · have HS := Lib.hid (rep_set hlt)
      have c1 := own_cell (S.own 0 rfl) (k := k) (by omega)
      have d1 : (0:Int) ≤ k := by omega
      have d2 : (k:Int) < n := by omega
      have SH := Lib.hid S; clear S
      go_wp2
      go_roundw
      case rel => exact ⟨k + 1, by omega, by go_num, by rw [← HS.out, ← encI_set]; exact SH.out.setRow 0 rfl k (by omega) (.int .i64 (-1))⟩
      case measure => simp [intOf]; omega
    · obtain rfl : n = k := by omega
      rw [Nat.sub_self, List.replicate_zero, List.append_nil] at S
      have fz2 := own_frozen (S.own 0 rfl) (by omega) s
      have c2 := own_cell (S.own 0 rfl) (k := s) (by omega)
      have d4 : (0:Int) ≤ s := by omega
      have d5 : (s:Int) < n := by omega
      have SH := Lib.hid S; clear S
      clear fz
      go_wp2
      go_loopw [13, 14, 15, 16] (fun v _ _ _ wr => ∃ t : Nat, t ≤ n ∧ v = .int .i64 t ∧ Sep w wr [.own 3 1 qo n n (encI (bfN l (bf0 n s) t)), .own 108 2 q1 l.length c1 (encE l), .blk w.heap.size 41 #[.slice po (n + 1) co, .slice pt nt ct, .slice pr nr cr, .slice pv nv cv]]) (fun v _ _ _ _ => n - (intOf v).toNat)
      case atStart => exact ⟨0, Nat.zero_le _, rfl, by show Sep _ _ (.own _ _ _ _ _ (encI (bf0 n s)) :: _); unfold bf0; rw [← encI_set]; exact SH.out.setRow 0 rfl s (by omega) (.int .i64 0)⟩
      case round =>
        clear SH fz2 c2 hlt
        obtain ⟨t, ht, rfl, S⟩ := hrel
        by_cases hlt : t < n
        · have d6 : (0:Int) ≤ t := by omega
          have d7 : (t:Int) < n := by omega
          have SH := Lib.hid S; clear S
          go_wp2
          go_loopw [14, 15, 16] (fun i _ _ wr => ∃ j : Nat, j ≤ l.length ∧ i = .int .i64 j ∧ Sep w wr [.own 3 1 qo n n (encI (bfR (l.take j) (bfN l (bf0 n s) t))), .own 108 2 q1 l.length c1 (encE l), .blk w.heap.size 41 #[.slice po (n + 1) co, .slice pt nt ct, .slice pr nr cr, .slice pv nv cv]]) (fun i _ _ _ => l.length - (intOf i).toNat)
          case atStart => exact ⟨0, Nat.zero_le _, rfl, SH.out⟩
          case round =>
            clear SH
            obtain ⟨j, hj, rfl, S⟩ := hrel
            have pz := (S.rd 0 rfl (by omega)).ptr
            have pe := (S.rd 1 rfl (by omega)).ptr
            by_cases hlj : j < l.length
            · have hs1 := Lib.hid (bfR_take (X := bfN l (bf0 n s) t) hlj)
              have hb : ∀ v, -1 ≤ nth (bfR (l.take j) (bfN l (bf0 n s) t)) v ∧ nth (bfR (l.take j) (bfN l (bf0 n s) t)) v ≤ 1000000 := fun v => by
                have g1 := bfR_bd (l := l) j (bfN l (bf0 n s) t) (Int.natCast_nonneg (t * l.length)) (bfN_bd t) v
                have g2 : t * l.length ≤ 200 * 2000 := Nat.mul_le_mul (by omega) (by omega)
                omega
              generalize bfR (l.take j) (bfN l (bf0 n s) t) = X at *
              have e1 := (S.rd 1 rfl (by omega)).cE hlj
              have e2 := (S.rd 1 rfl (by omega)).cE2 hlj
              obtain ⟨b1, b2, b3, b4⟩ := HBD.out _ (nth_mem hlj)
              obtain ⟨a, ha⟩ : ∃ a : Nat, (nth l j).1 = (a : Int) := ⟨(nth l j).1.toNat, by omega⟩
              obtain ⟨b, hb'⟩ : ∃ b : Nat, (nth l j).2 = (b : Int) := ⟨(nth l j).2.toNat, by omega⟩
              rw [ha] at b1 b2 e1
              rw [hb'] at b3 b4 e2
              have hs2 : Hid (bfR (l.take (j + 1)) (bfN l (bf0 n s) t) = if 0 ≤ nth X a ∧ (nth X b < 0 ∨ nth X a + 1 < nth X b) then X.set b (nth X a + 1) else X) := by
                unfold Hid; rw [hs1.out]; unfold bf1; rw [ha, hb', Int.toNat_natCast, Int.toNat_natCast]
              clear ha hb' hs1
              have fa := own_frozen (S.own 0 rfl) (by omega) b
              have ca := (S.rd 0 rfl (by omega)).cI (k := a) (by omega)
              have cb := (S.rd 0 rfl (by omega)).cI (k := b) (by omega)
              have ba := hb a
              have bb := hb b
              clear hb
              have d8 : (0:Int) ≤ j := by omega
              have d9 : (j:Int) < l.length := by omega
              have dA : (a:Int) < n := b2
              have dB : (b:Int) < n := b4
              generalize nth X a = x at *
              generalize nth X b = y at *
              by_cases k1 : 0 ≤ x
              · have f1 : decide (0 ≤ x) = true := by simpa using k1
                by_cases k2 : y < 0
                · have f2 : decide (y < 0) = true := by simpa using k2
                  rw [if_pos ⟨k1, .inl k2⟩] at hs2
                  have SH := Lib.hid S; clear S
                  go_wp2
                  go_roundw
                  case rel => exact ⟨j + 1, by omega, by go_num, by rw [hs2.out, ← encI_set]; exact SH.out.setRow 0 rfl b (by omega) (.int .i64 (x + 1))⟩
                  case measure => simp [intOf]; omega
                · have f2 : decide (y < 0) = false := by simpa using k2
                  by_cases k3 : x + 1 < y
                  · have f3 : decide (x + 1 < y) = true := by simpa using k3
                    rw [if_pos ⟨k1, .inr k3⟩] at hs2
                    have SH := Lib.hid S; clear S
                    go_wp2
                    go_roundw
                    case rel => exact ⟨j + 1, by omega, by go_num, by rw [hs2.out, ← encI_set]; exact SH.out.setRow 0 rfl b (by omega) (.int .i64 (x + 1))⟩
                    case measure => simp [intOf]; omega
                  · have f3 : decide (x + 1 < y) = false := by simpa using k3
                    rw [if_neg (by omega)] at hs2
                    have SH := Lib.hid S; clear S
                    go_wp2
                    go_roundw
                    case rel => exact ⟨j + 1, by omega, by go_num, by rw [hs2.out]; exact SH.out⟩
                    case measure => simp [intOf]; omega
              · have f1 : decide (0 ≤ x) = false := by simpa using k1
                rw [if_neg (by omega)] at hs2
                have SH := Lib.hid S; clear S
                go_wp2
                go_roundw
                case rel => exact ⟨j + 1, by omega, by go_num, by rw [hs2.out]; exact SH.out⟩
                case measure => simp [intOf]; omega
            · obtain rfl : j = l.length := by omega
              rw [List.take_length] at S
              have SH := Lib.hid S; clear S
              go_wp2
              go_roundw
              case rel => exact ⟨t + 1, by omega, by go_num, SH.out⟩
              case measure => simp [intOf]; omega
        · obtain rfl : n = t := by omega
          rw [HFIN.out] at S
          have SH := Lib.hid S; clear S
          go_wp2
          go_ret2
          exact ⟨qo, _, rfl, SH.out.pick [0] (by decide) rfl⟩
end Go.Proofs.YtkekibnhmfmhmaaGreat
/- The reference's Levels, whatever is asked. -/
namespace Go.Proofs.YtkekibnhmfmhmaaGreat
open Go Go.RowKit
set_option maxRecDepth 100000 in
set_option maxHeartbeats 4000000 in
theorem Levels07_no (po : Option Addr) (no co : Nat) (O : List Int) (pt : Option Addr) (nt ct : Nat) (T : List Int) (pr : Option Addr) (nr cr : Nat) (R : List Int) (pv : Option Addr) (nv cv : Nat) (V : List Int) (w : World) (s : Int) (back : Bool) (hO : Rd w 1 po no (encI O)) (hT : Rd w 1 pt nt (encI T)) (hR : Rd w 1 pr nr (encI R)) (hV : Rd w 1 pv nv (encI V)) (hct : nt ≤ ct) (hcv : nv ≤ cv) (hc : levC (checkR O T R V) O s ≠ 0) :
    Calls Tryz.prog 70 #[.agg #[.slice po no co, .slice pt nt ct, .slice pr nr cr, .slice pv nv cv], .int .i64 s, .bool back] w fun e w' => e = .returned (.tuple #[.slice none 0 0, .int .i64 (levC (checkR O T R V) O s)]) ∧ Ext w w' := by
  have S0 := Lib.hid ((Sep.start w).al #[.slice po no co, .slice pt nt ct, .slice pr nr cr, .slice pv nv cv] 41 w.heap.size rfl)
  have HE := Lib.hid (fun W1 (h : Ext w W1) => edges07 po no co O pt nt ct T pr nr cr R pv nv cv V W1 back (hO.ext h) (hT.ext h) (hR.ext h) (hV.ext h) hct hcv)
  have l1 := hO.nI
  have n1 := hO.small
  clear hO hT hR hV
  unfold levC at *
  cases hck : checkR O T R V with
  | false =>
    rw [hck] at HE
    rw [if_neg (by simp)]
    have HE2 : Hid (∀ W1, Ext w W1 → Calls Tryz.prog 98 #[.agg #[.slice po no co, .slice pt nt ct, .slice pr nr cr, .slice pv nv cv], .bool back] W1 fun e w' => ∃ q c, e = .returned (.tuple #[.slice q 0 c, .int .i64 40]) ∧ Sep W1 w' [.own 108 2 q 0 c []]) := HE.out
    clear HE hck hc l1
    have HE := HE2
    clear HE2
    go_enter Tryz.func70, Tryz.ntmps70
    go_wp2_with (go_at_call 98; go_must (refine (HE.out _ S0.out.ext).mono ?_; rintro e w1 ⟨q1, c1, rfl, Z⟩; have S1 := Lib.hid (S0.out.comp Z); have az := (S1.out.blk 1 rfl).lt; have a0 := (S1.out.blk 1 rfl).cell 0; have a1 := (S1.out.blk 1 rfl).cell 1; have a2 := (S1.out.blk 1 rfl).cell 2; have a3 := (S1.out.blk 1 rfl).cell 3; clear Z))
    go_ret2
    exact ⟨rfl, S1.out.ext⟩
  | true =>
    rw [hck, if_pos rfl] at hc
    rw [hck] at HE
    rw [if_pos rfl]
    have hno : ¬ (0 ≤ s ∧ s < (O.length : Int) - 1) := fun h => by rw [if_pos h] at hc; exact hc rfl
    rw [if_neg hno]
    have HE2 : Hid (∀ W1, Ext w W1 → Calls Tryz.prog 98 #[.agg #[.slice po no co, .slice pt nt ct, .slice pr nr cr, .slice pv nv cv], .bool back] W1 fun e w' => ∃ q c, e = .returned (.tuple #[.slice q (edgD back O T).length c, .int .i64 0]) ∧ Sep W1 w' [.own 108 2 q (edgD back O T).length c (encE (edgD back O T))]) := HE.out
    clear HE hck hc
    have HE := HE2
    clear HE2
    generalize edgD back O T = l at *
    by_cases h1 : s < 0
    · have d1 : decide (s < 0) = true := by simpa using h1
      clear hno l1
      go_enter Tryz.func70, Tryz.ntmps70
      go_wp2_with (go_at_call 98; go_must (refine (HE.out _ S0.out.ext).mono ?_; rintro e w1 ⟨q1, c1, rfl, Z⟩; have S1 := Lib.hid (S0.out.comp Z); have az := (S1.out.blk 1 rfl).lt; have a0 := (S1.out.blk 1 rfl).cell 0; have a1 := (S1.out.blk 1 rfl).cell 1; have a2 := (S1.out.blk 1 rfl).cell 2; have a3 := (S1.out.blk 1 rfl).cell 3; clear Z))
      go_ret2
      exact ⟨rfl, S1.out.ext⟩
    · have d1 : decide (s < 0) = false := by simpa using h1
      have d2 : decide ((no:Int) - 1 ≤ s) = true := by simp; omega
      clear hno l1
      go_enter Tryz.func70, Tryz.ntmps70
      go_wp2_with (go_at_call 98; go_must (refine (HE.out _ S0.out.ext).mono ?_; rintro e w1 ⟨q1, c1, rfl, Z⟩; have S1 := Lib.hid (S0.out.comp Z); have az := (S1.out.blk 1 rfl).lt; have a0 := (S1.out.blk 1 rfl).cell 0; have a1 := (S1.out.blk 1 rfl).cell 1; have a2 := (S1.out.blk 1 rfl).cell 2; have a3 := (S1.out.blk 1 rfl).cell 3; clear Z))
      go_ret2
      exact ⟨rfl, S1.out.ext⟩
/-- whatever is asked -/
theorem Levels07 (po : Option Addr) (no co : Nat) (O : List Int) (pt : Option Addr) (nt ct : Nat) (T : List Int) (pr : Option Addr) (nr cr : Nat) (R : List Int) (pv : Option Addr) (nv cv : Nat) (V : List Int) (w : World) (s : Int) (back : Bool) (hO : Rd w 1 po no (encI O)) (hT : Rd w 1 pt nt (encI T)) (hR : Rd w 1 pr nr (encI R)) (hV : Rd w 1 pv nv (encI V)) (hct : nt ≤ ct) (hcv : nv ≤ cv) :
    Calls Tryz.prog 70 #[.agg #[.slice po no co, .slice pt nt ct, .slice pr nr cr, .slice pv nv cv], .int .i64 s, .bool back] w fun e w' => ∃ q c, e = .returned (.tuple #[.slice q (levR (checkR O T R V) back O T R V s).length c, .int .i64 (levC (checkR O T R V) O s)]) ∧ Sep w w' [.own 3 1 q (levR (checkR O T R V) back O T R V s).length c (encI (levR (checkR O T R V) back O T R V s))] := by
  by_cases hc : levC (checkR O T R V) O s = 0
  · have hck : checkR O T R V = true := by
      apply Classical.byContradiction; intro h
      unfold levC at hc; rw [if_neg h] at hc; omega
    have hs : 0 ≤ s ∧ s < (O.length : Int) - 1 := by
      apply Classical.byContradiction; intro h
      unfold levC at hc; rw [if_pos hck, if_neg h] at hc; omega
    obtain ⟨n, hn⟩ : ∃ n, O.length = n + 1 := ⟨O.length - 1, by omega⟩
    obtain ⟨a, rfl⟩ : ∃ a : Nat, s = (a : Int) := ⟨s.toNat, by omega⟩
    have e : levR (checkR O T R V) back O T R V a = (List.range n).map fun v => lev (nxR back O T R V) n a v := by
      unfold levR; rw [if_pos hc, hn]; rfl
    rw [hc, e]
    refine (Levels07_yes po no co O pt nt ct T pr nr cr R pv nv cv V w n a back hO hT hR hV hct hcv hck hn (by omega)).mono ?_
    rintro e w' ⟨q, c, rfl, S⟩
    have hl : ((List.range n).map fun v => lev (nxR back O T R V) n a v).length = n := by simp
    refine ⟨q, c, by rw [hl], by rw [hl]; exact S⟩
  · have e : levR (checkR O T R V) back O T R V s = [] := by unfold levR; rw [if_neg hc]
    rw [e]
    refine (Levels07_no po no co O pt nt ct T pr nr cr R pv nv cv V w s back hO hT hR hV hct hcv hc).mono ?_
    rintro e w' ⟨rfl, h⟩
    exact ⟨none, 0, rfl, ((Sep.start w).call h).nilrow _ _⟩
end Go.Proofs.YtkekibnhmfmhmaaGreat
/- The document's hits (chapter 9, reference): Hits. -/
namespace Go.Proofs.YtkekibnhmfmhmaaGreat
open Go Go.RowKit
attribute [local go_sem] Oper.semAt_some
set_option maxRecDepth 100000 in
set_option maxHeartbeats 8000000 in
theorem Hits09 (po : Option Addr) (no co : Nat) (O : List Int) (pt : Option Addr) (nt ct : Nat) (T : List Int) (pr : Option Addr) (nr cr : Nat) (R : List Int) (pv : Option Addr) (nv cv : Nat) (V : List Int) (pp : Option Addr) (np cp : Nat) (hs : List Hd) (L : List Po) (pw : Option Addr) (nw cw : Nat) (ws : List ByteArray) (s rad : Int) (w : World) (hO : Rd w 1 po no (encI O)) (hT : Rd w 1 pt nt (encI T)) (hR : Rd w 1 pr nr (encI R)) (hV : Rd w 1 pv nv (encI V)) (hct : nt ≤ ct) (hcv : nv ≤ cv) (hL : RdP w pp np hs L) (hok : PoOk L) (hW : Rd w 1 pw nw (encS ws)) (hcw : nw ≤ cw) (hnw : nw ≤ 100) :
    Calls Tryz.prog 30 #[.agg #[.slice po no co, .slice pt nt ct, .slice pr nr cr, .slice pv nv cv], .slice pp np cp, .int .i64 s, .slice pw nw cw, .int .i64 rad] w fun e w' => ∃ q c, e = .returned (.tuple #[.slice q (nearR (checkR O T R V) O T R V s L ws rad).length c, .int .i64 (nearC (checkR O T R V) O s ws rad)]) ∧ Sep w w' [.own 61 2 q (nearR (checkR O T R V) O T R V s L ws rad).length c (encE (nearR (checkR O T R V) O T R V s L ws rad))] := by
  have _u := hcw
  clear _u
  have HLev := Lib.hid (fun W (h : Ext w W) => Levels07 po no co O pt nt ct T pr nr cr R pv nv cv V W s false (hO.ext h) (hT.ext h) (hR.ext h) (hV.ext h) hct hcv)
  have HAll := Lib.hid (fun W (h : Ext w W) => All05x pp np cp hs L pw nw cw ws W (hL.ext h) hok (hW.ext h) hnw)
  have S0 := Lib.hid ((Sep.start w).al #[.slice po no co, .slice pt nt ct, .slice pr nr cr, .slice pv nv cv] 41 w.heap.size rfl)
  have hwl := hW.nS
  have HPL := Lib.hid (allX_len hok ws)
  have HND := Lib.hid (fun d => gatN_nodup (d := d) (rad := rad) (allX_nodup L ws))
  have hlr : (levR (checkR O T R V) false O T R V s).length ≤ 9000000000 := by
    unfold levR
    split
    · rename_i h
      have hck : checkR O T R V = true := by
        cases h2 : checkR O T R V with
        | true => rfl
        | false => rw [h2] at h; simp [levC] at h
      have r := offB_parts (halfB_off (checkR_half hck).2.2.1)
      simp; omega
    · simp
  have HLR := Lib.hid hlr
  have hcx : ∀ c, levC (checkR O T R V) O s = c → nearC (checkR O T R V) O s ws rad = if c ≠ 0 then c else if ws.length = 0 ∨ rad < 0 then 1 else 0 := fun c h => by unfold nearC; rw [h]
  have hrx : nearR (checkR O T R V) O T R V s L ws rad = if nearC (checkR O T R V) O s ws rad = 0 then sortN (gatN (levR (checkR O T R V) false O T R V s) rad (allX L ws)) else [] := rfl
  clear hO hT hR hV hct hcv hL hok hW hcw hnw hlr
  obtain ⟨lc, hlc⟩ : ∃ lc, levC (checkR O T R V) O s = lc := ⟨_, rfl⟩
  have hcx2 := hcx lc hlc
  rw [hlc] at HLev
  clear hcx hlc
  generalize nearC (checkR O T R V) O s ws rad = nc at *
  generalize nearR (checkR O T R V) O T R V s L ws rad = nr' at *
  generalize levR (checkR O T R V) false O T R V s = d at *
  obtain ⟨cx, hcw2⟩ : ∃ cx, codeX ws = cx := ⟨_, rfl⟩
  have hcw3 : cx = if ws.length = 0 then 1 else 0 := by rw [← hcw2]; rfl
  rw [hcw2] at HAll
  clear hcw2 hwl
  generalize allX L ws = P at *
  by_cases h1 : lc = 0
  · rw [if_neg (by simpa using h1)] at hcx2
    have e1 : (lc != 0) = false := by simpa using h1
    by_cases h2 : ws.length = 0
    · rw [if_pos h2] at hcw3
      rw [if_pos (.inl h2)] at hcx2
      rw [hcx2, if_neg (by decide)] at hrx
      subst hcw3 hcx2 hrx
      clear h1 h2
      go_enter Tryz.func30, Tryz.ntmps30
      go_wp2_with (first | (go_at_call 71; have _t := S1; go_must (refine (HAll.out _ S1.out.ext).mono ?_; rintro e w2 ⟨q2, c2, rfl, Z⟩; have S2 := Lib.hid (S1.out.comp Z); clear Z)) | (go_at_call 70; go_must (refine (HLev.out _ S0.out.ext).mono ?_; rintro e w1 ⟨q1, c1, rfl, Z⟩; have S1 := Lib.hid (S0.out.comp Z); clear Z)))
      go_ret2
      exact ⟨none, 0, rfl, ((Sep.start w).call S2.out.ext).nilrow _ _⟩
    · rw [if_neg h2] at hcw3
      by_cases h3 : rad < 0
      · have e3 : decide (rad < 0) = true := by simpa using h3
        rw [if_pos (.inr h3)] at hcx2
        rw [hcx2, if_neg (by decide)] at hrx
        subst hcw3 hcx2 hrx
        clear h1 h2 h3
        go_enter Tryz.func30, Tryz.ntmps30
        go_wp2_with (first | (go_at_call 71; have _t := S1; go_must (refine (HAll.out _ S1.out.ext).mono ?_; rintro e w2 ⟨q2, c2, rfl, Z⟩; have S2 := Lib.hid (S1.out.comp Z); clear Z)) | (go_at_call 70; go_must (refine (HLev.out _ S0.out.ext).mono ?_; rintro e w1 ⟨q1, c1, rfl, Z⟩; have S1 := Lib.hid (S0.out.comp Z); clear Z)))
        go_ret2
        exact ⟨none, 0, rfl, ((Sep.start w).call S2.out.ext).nilrow _ _⟩
      · have e3 : decide (rad < 0) = false := by simpa using h3
        rw [if_neg (by rintro (h | h); · exact h2 h
                       · exact h3 h)] at hcx2
        rw [hcx2, if_pos rfl] at hrx
        subst hcw3 hcx2 hrx
        clear h1 h2 h3
        go_enter Tryz.func30, Tryz.ntmps30
        go_wp2_with (first | (go_at_call 71; have _t := S1; go_must (refine (HAll.out _ S1.out.ext).mono ?_; rintro e w2 ⟨q2, c2, rfl, Z⟩; have S2 := Lib.hid (S1.out.comp Z); clear Z)) | (go_at_call 70; go_must (refine (HLev.out _ S0.out.ext).mono ?_; rintro e w1 ⟨q1, c1, rfl, Z⟩; have S1 := Lib.hid (S0.out.comp Z); clear Z)))
        have S3 := Lib.hid ((S2.out.nilrow 61 2).pick [0, 1, 2] (by decide) rfl)
        clear S0 S1 S2 HLev HAll
        go_loopw [16, 17, 18] (fun v16 i _ wr => ∃ (k : Nat) (q : Option Addr) (c : Nat), k ≤ P.length ∧ i = .int .i64 k ∧ v16 = .slice q (sortN (gatN d rad (P.take k))).length c ∧ Sep w wr [.own 61 2 q (sortN (gatN d rad (P.take k))).length c (encE (sortN (gatN d rad (P.take k)))), .own 3 1 q2 P.length c2 (encI P), .own 3 1 q1 d.length c1 (encI d)]) (fun _ i _ _ => P.length - (intOf i).toNat)
        case atStart => exact ⟨0, none, 0, Nat.zero_le _, rfl, rfl, S3.out⟩
        case round =>
          clear S3
          obtain ⟨k, q, c, hk, rfl, rfl, S⟩ := hrel
          have hgl := gatN_len d rad (P.take k)
          have hm1 : (sortN (gatN d rad (P.take k))).length ≤ 1000 := by rw [sortN_len]; rw [List.length_take] at hgl; have := HPL.out; omega
          have pP := (S.rd 1 rfl (by have := HPL.out; omega)).ptr
          clear hgl
          have hP1 := HPL.out
          by_cases hlt : k < P.length
          · have d1 : (0:Int) ≤ k := by omega
            have d2 : (k:Int) < P.length := by omega
            have g1 := (S.rd 1 rfl (by have := HPL.out; omega)).cI hlt
            have HST := Lib.hid (gatN_take d rad hlt)
            have HGI := Lib.hid (goodN_iff (d := d) (rad := rad) (v := nth P k))
            have RD := Lib.hid (S.rd 2 rfl (by have := HLR.out; omega))
            have pD := RD.out.ptr
            generalize nth P k = v at *
            generalize gatN d rad (P.take k) = G at *
            have HSN := Lib.hid (fun x => sortN_snoc G x)
            have hcap := own_cap (S.own 0 rfl)
            by_cases a1 : 0 ≤ v
            · have k1 : decide (0 ≤ v) = true := by simpa using a1
              by_cases a2 : v < d.length
              · have k2 : decide (v < d.length) = true := by simpa using a2
                obtain ⟨u, rfl⟩ : ∃ u : Nat, v = u := ⟨v.toNat, by omega⟩
                have g2 := RD.out.cI (k := u) (by omega)
                rw [Int.toNat_natCast] at HGI
                have HX : Hid (hitN d (u:Int) = ((u:Int), nth d u)) := by unfold Hid hitN; rw [Int.toNat_natCast]
                generalize nth d u = x at *
                have k2n : decide (u < d.length) = true := by simp; omega
                by_cases a3 : 0 ≤ x
                · have k3 : decide (0 ≤ x) = true := by simpa using a3
                  by_cases a4 : x ≤ rad
                  · have k4 : decide (x ≤ rad) = true := by simpa using a4
                    have hg : goodN d rad (u:Int) = true := HGI.out.2 ⟨a1, a2, a3, a4⟩
                    rw [if_pos hg, HX.out] at HST
                    have HPU := Lib.hid (Put09 q (sortN G).length c (sortN G) ((u:Int), x) wr (S.rdx 0 rfl) hcap (by omega))
                    have SH := Lib.hid S; clear S
                    clear a3 a4 hg HGI HX RD
                    go_wp2_with (go_at_call 72; go_must (refine HPU.out.mono ?_; rintro e w5 ⟨q', c', rfl, Z⟩; have S5 := Lib.hid ((SH.out.comp Z).pick [0, 2, 3] (by decide) rfl); clear Z))
                    go_roundw
                    case rel => exact ⟨k + 1, q', c', by omega, by go_num, by rw [HST.out, HSN.out], by rw [HST.out, HSN.out]; exact S5.out⟩
                    case measure => simp [intOf]; omega
                  · have k4 : decide (x ≤ rad) = false := by simpa using a4
                    rw [if_neg fun h => a4 (HGI.out.1 h).2.2.2] at HST
                    have SH := Lib.hid S; clear S
                    clear a3 a4 HGI HX RD
                    go_wp2
                    go_roundw
                    case rel => exact ⟨k + 1, q, c, by omega, by go_num, by rw [HST.out], by rw [HST.out]; exact SH.out⟩
                    case measure => simp [intOf]; omega
                · have k3 : decide (0 ≤ x) = false := by simpa using a3
                  rw [if_neg fun h => a3 (HGI.out.1 h).2.2.1] at HST
                  have SH := Lib.hid S; clear S
                  clear a3 HGI HX RD
                  go_wp2
                  go_roundw
                  case rel => exact ⟨k + 1, q, c, by omega, by go_num, by rw [HST.out], by rw [HST.out]; exact SH.out⟩
                  case measure => simp [intOf]; omega
              · have k2 : decide (v < d.length) = false := by simpa using a2
                rw [if_neg fun h => a2 (HGI.out.1 h).2.1] at HST
                have SH := Lib.hid S; clear S
                clear a2 HGI RD
                go_wp2
                go_roundw
                case rel => exact ⟨k + 1, q, c, by omega, by go_num, by rw [HST.out], by rw [HST.out]; exact SH.out⟩
                case measure => simp [intOf]; omega
            · have k1 : decide (0 ≤ v) = false := by simpa using a1
              rw [if_neg fun h => a1 (HGI.out.1 h).1] at HST
              have SH := Lib.hid S; clear S
              clear a1 HGI RD
              go_wp2
              go_roundw
              case rel => exact ⟨k + 1, q, c, by omega, by go_num, by rw [HST.out], by rw [HST.out]; exact SH.out⟩
              case measure => simp [intOf]; omega
          · have d2 : decide ((k:Int) < P.length) = false := by simp; omega
            have d2n : decide (k < P.length) = false := by simp; omega
            have HT : Hid (P.take k = P) := by unfold Hid; rw [List.take_of_length_le (by omega)]
            rw [HT.out] at S hm1 ⊢
            have SH := Lib.hid S; clear S
            clear hlt
            go_wp2
            go_ret2
            exact ⟨q, c, rfl, SH.out.pick [0] (by decide) rfl⟩
  · rw [if_pos h1] at hcx2
    have e1 : (lc != 0) = true := by simpa using h1
    rw [hcx2, if_neg h1] at hrx
    subst hcx2 hrx
    clear h1
    go_enter Tryz.func30, Tryz.ntmps30
    go_wp2_with (first | (go_at_call 71; have _t := S1; go_must (refine (HAll.out _ S1.out.ext).mono ?_; rintro e w2 ⟨q2, c2, rfl, Z⟩; have S2 := Lib.hid (S1.out.comp Z); clear Z)) | (go_at_call 70; go_must (refine (HLev.out _ S0.out.ext).mono ?_; rintro e w1 ⟨q1, c1, rfl, Z⟩; have S1 := Lib.hid (S0.out.comp Z); clear Z)))
    go_ret2
    exact ⟨none, 0, rfl, ((Sep.start w).call S1.out.ext).nilrow _ _⟩
end Go.Proofs.YtkekibnhmfmhmaaGreat
/- First (chapter 9): the program's, the document's (printed by gennr5.py). -/
namespace Go.Proofs.YtkekibnhmfmhmaaGreat
open Go Go.RowKit
/-- the first hit, or nothing -/
def firstV (h : List (Int × Int)) : Int × Int := if h.length = 0 then (0, 0) else nth h 0
def firstB (h : List (Int × Int)) : Bool := decide (0 < h.length)
theorem nearR_len {ck : Bool} {O T R V : List Int} {s : Int} {L : List Po} {ws : List ByteArray} {rad : Int} (hok : PoOk L) : (nearR ck O T R V s L ws rad).length ≤ 1000 := by
  unfold nearR
  split
  · rw [sortN_len]
    exact Nat.le_trans (gatN_len ..) (allX_len hok ws)
  · simp
theorem nearR_no {ck : Bool} {O T R V : List Int} {s : Int} {L : List Po} {ws : List ByteArray} {rad : Int} (h : nearC ck O s ws rad ≠ 0) : nearR ck O T R V s L ws rad = [] := by unfold nearR; rw [if_neg h]
set_option maxRecDepth 100000 in
set_option maxHeartbeats 8000000 in
theorem NFirstG (po : Option Addr) (no co : Nat) (O : List Int) (pt : Option Addr) (nt ct : Nat) (T : List Int) (pr : Option Addr) (nr cr : Nat) (R : List Int) (pv : Option Addr) (nv cv : Nat) (V : List Int) (pp : Option Addr) (np cp : Nat) (hs : List Hd) (L : List Po) (pw : Option Addr) (nw cw : Nat) (ws : List ByteArray) (s : Int) (w : World) (hO : Rd w 1 po no (encI O)) (hT : Rd w 1 pt nt (encI T)) (hR : Rd w 1 pr nr (encI R)) (hV : Rd w 1 pv nv (encI V)) (hct : nt ≤ ct) (hcv : nv ≤ cv) (hL : RdP w pp np hs L) (hok : PoOk L) (hW : Rd w 1 pw nw (encS ws)) (hcw : nw ≤ cw) (hnw : nw ≤ 100) :
    Calls Tryz.prog 31 #[.agg #[.slice po no co, .slice pt nt ct, .slice pr nr cr, .slice pv nv cv], .slice pp np cp, .int .i64 s, .slice pw nw cw] w fun e w' => e = .returned (.tuple #[.agg #[.int .i64 (firstV (nearR (checkR O T R V) O T R V s L ws 200)).1, .int .i64 (firstV (nearR (checkR O T R V) O T R V s L ws 200)).2], .bool (firstB (nearR (checkR O T R V) O T R V s L ws 200)), .int .i64 (nearC (checkR O T R V) O s ws 200)]) ∧ Ext w w' := by
  have HH := Lib.hid (fun W (h : Ext w W) => NHitsG po no co O pt nt ct T pr nr cr R pv nv cv V pp np cp hs L pw nw cw ws s 200 W (hO.ext h) (hT.ext h) (hR.ext h) (hV.ext h) hct hcv (hL.ext h) hok (hW.ext h) hcw hnw)
  have HLN := Lib.hid (nearR_len (ck := checkR O T R V) (O := O) (T := T) (R := R) (V := V) (s := s) (ws := ws) (rad := 200) hok)
  have hno := fun h => nearR_no (ck := checkR O T R V) (O := O) (T := T) (R := R) (V := V) (s := s) (L := L) (ws := ws) (rad := 200) h
  have S0 := Lib.hid (((Sep.start w).al #[.slice po no co, .slice pt nt ct, .slice pr nr cr, .slice pv nv cv] 41 w.heap.size rfl).al #[.int .i64 0, .int .i64 0] 61 (w.heap.size + 1) (by simp))
  clear hO hT hR hV hct hcv hL hok hW hcw hnw
  generalize nearC (checkR O T R V) O s ws 200 = nc at *
  generalize nearR (checkR O T R V) O T R V s L ws 200 = h at *
  by_cases h1 : nc = 0
  · have e1 : (nc != 0) = false := by simpa using h1
    subst h1
    by_cases h2 : h.length = 0
    · have hh : h = [] := List.eq_nil_of_length_eq_zero h2
      subst hh
      clear hno h2
      show Calls _ _ _ _ fun e w' => e = .returned (.tuple #[.agg #[.int .i64 0, .int .i64 0], .bool false, .int .i64 0]) ∧ Ext w w'
      go_enter Tryz.func31, Tryz.ntmps31
      go_wp2_with (go_at_call 29; go_must (refine (HH.out _ S0.out.ext).mono ?_; rintro e w1 ⟨q1, c1, rfl, Z⟩; have S1 := Lib.hid (S0.out.call Z.ext); have r0 := (S1.out.blk 0 rfl).cell 0; have r1 := (S1.out.blk 0 rfl).cell 1; have rz := (S1.out.blk 0 rfl).lt; have rf0 := (S1.out.blk 0 rfl).frozen 0; have rf1 := (S1.out.blk 0 rfl).frozen 1; clear Z))
      have T := (S1.out.set 0 rfl 0 (.int .i64 0)).set 0 rfl 1 (.int .i64 0)
      have y0 := (T.blk 0 rfl).cell 0
      have y1 := (T.blk 0 rfl).cell 1
      simp at y0 y1
      refine bodyPost_ret (v := .tuple #[.agg #[.int .i64 0, .int .i64 0], .bool false, .int .i64 0]) (by simp [results, Tryz.results31, go_sem, y0, y1, Tryz.sizeOf61, Tryz.isAgg61]) rfl ⟨rfl, T.ext⟩
    · have HFV : Hid (firstV h = nth h 0) := by unfold Hid firstV; rw [if_neg h2]
      have HFB : Hid (firstB h = true) := by unfold Hid firstB; simpa using (by omega : 0 < h.length)
      rw [HFV.out, HFB.out]
      have d2 : ((h.length : Int) == 0) = false := by rw [beq_eq_false_iff_ne]; omega
      have d3 : (0:Int) < h.length := by omega
      have d4 : (h.length == 0) = false := by rw [beq_eq_false_iff_ne]; omega
      have hl := HLN.out
      clear hno
      go_enter Tryz.func31, Tryz.ntmps31
      go_wp2_with (go_at_call 29; go_must (refine (HH.out _ S0.out.ext).mono ?_; rintro e w1 ⟨q1, c1, rfl, Z⟩; have S1 := Lib.hid (S0.out.call Z.ext); have r0 := (S1.out.blk 0 rfl).cell 0; have r1 := (S1.out.blk 0 rfl).cell 1; have rz := (S1.out.blk 0 rfl).lt; have rf0 := (S1.out.blk 0 rfl).frozen 0; have rf1 := (S1.out.blk 0 rfl).frozen 1; have ze := Z.rd 0 rfl (by omega); have g1 := ze.cE (k := 0) (by omega); have g2 := ze.cE2 (k := 0) (by omega); have p1 := ze.ptr; clear Z ze))
      have T := (S1.out.set 0 rfl 0 (.int .i64 (nth h 0).1)).set 0 rfl 1 (.int .i64 (nth h 0).2)
      have y0 := (T.blk 0 rfl).cell 0
      have y1 := (T.blk 0 rfl).cell 1
      simp at y0 y1
      refine bodyPost_ret (v := .tuple #[.agg #[.int .i64 (nth h 0).1, .int .i64 (nth h 0).2], .bool true, .int .i64 0]) (by simp [results, Tryz.results31, go_sem, y0, y1, Tryz.sizeOf61, Tryz.isAgg61]) rfl ⟨rfl, T.ext⟩
  · have hh : h = [] := hno h1
    subst hh
    have e1 : (nc != 0) = true := by simpa using h1
    clear hno h1
    show Calls _ _ _ _ fun e w' => e = .returned (.tuple #[.agg #[.int .i64 0, .int .i64 0], .bool false, .int .i64 nc]) ∧ Ext w w'
    go_enter Tryz.func31, Tryz.ntmps31
    go_wp2_with (go_at_call 29; go_must (refine (HH.out _ S0.out.ext).mono ?_; rintro e w1 ⟨q1, c1, rfl, Z⟩; have S1 := Lib.hid (S0.out.call Z.ext); have r0 := (S1.out.blk 0 rfl).cell 0; have r1 := (S1.out.blk 0 rfl).cell 1; have rz := (S1.out.blk 0 rfl).lt; have rf0 := (S1.out.blk 0 rfl).frozen 0; have rf1 := (S1.out.blk 0 rfl).frozen 1; clear Z))
    have T := (S1.out.set 0 rfl 0 (.int .i64 0)).set 0 rfl 1 (.int .i64 0)
    have y0 := (T.blk 0 rfl).cell 0
    have y1 := (T.blk 0 rfl).cell 1
    simp at y0 y1
    refine bodyPost_ret (v := .tuple #[.agg #[.int .i64 0, .int .i64 0], .bool false, .int .i64 nc]) (by simp [results, Tryz.results31, go_sem, y0, y1, Tryz.sizeOf61, Tryz.isAgg61]) rfl ⟨rfl, T.ext⟩
set_option maxRecDepth 100000 in
set_option maxHeartbeats 8000000 in
theorem First09 (po : Option Addr) (no co : Nat) (O : List Int) (pt : Option Addr) (nt ct : Nat) (T : List Int) (pr : Option Addr) (nr cr : Nat) (R : List Int) (pv : Option Addr) (nv cv : Nat) (V : List Int) (pp : Option Addr) (np cp : Nat) (hs : List Hd) (L : List Po) (pw : Option Addr) (nw cw : Nat) (ws : List ByteArray) (s : Int) (w : World) (hO : Rd w 1 po no (encI O)) (hT : Rd w 1 pt nt (encI T)) (hR : Rd w 1 pr nr (encI R)) (hV : Rd w 1 pv nv (encI V)) (hct : nt ≤ ct) (hcv : nv ≤ cv) (hL : RdP w pp np hs L) (hok : PoOk L) (hW : Rd w 1 pw nw (encS ws)) (hcw : nw ≤ cw) (hnw : nw ≤ 100) :
    Calls Tryz.prog 32 #[.agg #[.slice po no co, .slice pt nt ct, .slice pr nr cr, .slice pv nv cv], .slice pp np cp, .int .i64 s, .slice pw nw cw] w fun e w' => e = .returned (.tuple #[.agg #[.int .i64 (firstV (nearR (checkR O T R V) O T R V s L ws 200)).1, .int .i64 (firstV (nearR (checkR O T R V) O T R V s L ws 200)).2], .bool (firstB (nearR (checkR O T R V) O T R V s L ws 200)), .int .i64 (nearC (checkR O T R V) O s ws 200)]) ∧ Ext w w' := by
  have HH := Lib.hid (fun W (h : Ext w W) => Hits09 po no co O pt nt ct T pr nr cr R pv nv cv V pp np cp hs L pw nw cw ws s 200 W (hO.ext h) (hT.ext h) (hR.ext h) (hV.ext h) hct hcv (hL.ext h) hok (hW.ext h) hcw hnw)
  have HLN := Lib.hid (nearR_len (ck := checkR O T R V) (O := O) (T := T) (R := R) (V := V) (s := s) (ws := ws) (rad := 200) hok)
  have hno := fun h => nearR_no (ck := checkR O T R V) (O := O) (T := T) (R := R) (V := V) (s := s) (L := L) (ws := ws) (rad := 200) h
  have S0 := Lib.hid (((Sep.start w).al #[.slice po no co, .slice pt nt ct, .slice pr nr cr, .slice pv nv cv] 41 w.heap.size rfl).al #[.int .i64 0, .int .i64 0] 61 (w.heap.size + 1) (by simp))
  clear hO hT hR hV hct hcv hL hok hW hcw hnw
  generalize nearC (checkR O T R V) O s ws 200 = nc at *
  generalize nearR (checkR O T R V) O T R V s L ws 200 = h at *
  by_cases h1 : nc = 0
  · have e1 : (nc != 0) = false := by simpa using h1
    subst h1
    by_cases h2 : h.length = 0
    · have hh : h = [] := List.eq_nil_of_length_eq_zero h2
      subst hh
      clear hno h2
      show Calls _ _ _ _ fun e w' => e = .returned (.tuple #[.agg #[.int .i64 0, .int .i64 0], .bool false, .int .i64 0]) ∧ Ext w w'
      go_enter Tryz.func32, Tryz.ntmps32
      go_wp2_with (go_at_call 30; go_must (refine (HH.out _ S0.out.ext).mono ?_; rintro e w1 ⟨q1, c1, rfl, Z⟩; have S1 := Lib.hid (S0.out.call Z.ext); have r0 := (S1.out.blk 0 rfl).cell 0; have r1 := (S1.out.blk 0 rfl).cell 1; have rz := (S1.out.blk 0 rfl).lt; have rf0 := (S1.out.blk 0 rfl).frozen 0; have rf1 := (S1.out.blk 0 rfl).frozen 1; clear Z))
      have T := (S1.out.set 0 rfl 0 (.int .i64 0)).set 0 rfl 1 (.int .i64 0)
      have y0 := (T.blk 0 rfl).cell 0
      have y1 := (T.blk 0 rfl).cell 1
      simp at y0 y1
      refine bodyPost_ret (v := .tuple #[.agg #[.int .i64 0, .int .i64 0], .bool false, .int .i64 0]) (by simp [results, Tryz.results32, go_sem, y0, y1, Tryz.sizeOf61, Tryz.isAgg61]) rfl ⟨rfl, T.ext⟩
    · have HFV : Hid (firstV h = nth h 0) := by unfold Hid firstV; rw [if_neg h2]
      have HFB : Hid (firstB h = true) := by unfold Hid firstB; simpa using (by omega : 0 < h.length)
      rw [HFV.out, HFB.out]
      have d2 : ((h.length : Int) == 0) = false := by rw [beq_eq_false_iff_ne]; omega
      have d3 : (0:Int) < h.length := by omega
      have d4 : (h.length == 0) = false := by rw [beq_eq_false_iff_ne]; omega
      have hl := HLN.out
      clear hno
      go_enter Tryz.func32, Tryz.ntmps32
      go_wp2_with (go_at_call 30; go_must (refine (HH.out _ S0.out.ext).mono ?_; rintro e w1 ⟨q1, c1, rfl, Z⟩; have S1 := Lib.hid (S0.out.call Z.ext); have r0 := (S1.out.blk 0 rfl).cell 0; have r1 := (S1.out.blk 0 rfl).cell 1; have rz := (S1.out.blk 0 rfl).lt; have rf0 := (S1.out.blk 0 rfl).frozen 0; have rf1 := (S1.out.blk 0 rfl).frozen 1; have ze := Z.rd 0 rfl (by omega); have g1 := ze.cE (k := 0) (by omega); have g2 := ze.cE2 (k := 0) (by omega); have p1 := ze.ptr; clear Z ze))
      have T := (S1.out.set 0 rfl 0 (.int .i64 (nth h 0).1)).set 0 rfl 1 (.int .i64 (nth h 0).2)
      have y0 := (T.blk 0 rfl).cell 0
      have y1 := (T.blk 0 rfl).cell 1
      simp at y0 y1
      refine bodyPost_ret (v := .tuple #[.agg #[.int .i64 (nth h 0).1, .int .i64 (nth h 0).2], .bool true, .int .i64 0]) (by simp [results, Tryz.results32, go_sem, y0, y1, Tryz.sizeOf61, Tryz.isAgg61]) rfl ⟨rfl, T.ext⟩
  · have hh : h = [] := hno h1
    subst hh
    have e1 : (nc != 0) = true := by simpa using h1
    clear hno h1
    show Calls _ _ _ _ fun e w' => e = .returned (.tuple #[.agg #[.int .i64 0, .int .i64 0], .bool false, .int .i64 nc]) ∧ Ext w w'
    go_enter Tryz.func32, Tryz.ntmps32
    go_wp2_with (go_at_call 30; go_must (refine (HH.out _ S0.out.ext).mono ?_; rintro e w1 ⟨q1, c1, rfl, Z⟩; have S1 := Lib.hid (S0.out.call Z.ext); have r0 := (S1.out.blk 0 rfl).cell 0; have r1 := (S1.out.blk 0 rfl).cell 1; have rz := (S1.out.blk 0 rfl).lt; have rf0 := (S1.out.blk 0 rfl).frozen 0; have rf1 := (S1.out.blk 0 rfl).frozen 1; clear Z))
    have T := (S1.out.set 0 rfl 0 (.int .i64 0)).set 0 rfl 1 (.int .i64 0)
    have y0 := (T.blk 0 rfl).cell 0
    have y1 := (T.blk 0 rfl).cell 1
    simp at y0 y1
    refine bodyPost_ret (v := .tuple #[.agg #[.int .i64 0, .int .i64 0], .bool false, .int .i64 nc]) (by simp [results, Tryz.results32, go_sem, y0, y1, Tryz.sizeOf61, Tryz.isAgg61]) rfl ⟨rfl, T.ext⟩
end Go.Proofs.YtkekibnhmfmhmaaGreat
/- Count (chapter 9): the program's, the document's. -/
namespace Go.Proofs.YtkekibnhmfmhmaaGreat
open Go Go.RowKit
def countC (ck : Bool) (ws : List ByteArray) (rad : Int) : Int := if ck = true then (if ws.length = 0 ∨ rad < 0 then 1 else 0) else 40
def countR (ck : Bool) (O T R V : List Int) (L : List Po) (ws : List ByteArray) (rad : Int) : List Int := if countC ck ws rad = 0 then (List.range (O.length - 1)).map fun v : Nat => ((nearR ck O T R V (v : Int) L ws rad).length : Int) else []
theorem countC_run {O : List Int} {v : Nat} {n : Nat} (hno : O.length = n + 1) (hv : v < n) {ws : List ByteArray} {rad : Int} (h : ¬ (ws.length = 0 ∨ rad < 0)) : nearC true O (v : Int) ws rad = 0 := by
  have e : levC true O (v : Int) = 0 := by
    unfold levC
    have hl : 0 ≤ (v : Int) ∧ (v : Int) < (O.length : Int) - 1 := by omega
    rw [if_pos rfl, if_pos hl]
  unfold nearC
  rw [e, if_neg (by simp), if_neg h]
set_option maxRecDepth 100000 in
set_option maxHeartbeats 8000000 in
theorem NCountG (po : Option Addr) (no co : Nat) (O : List Int) (pt : Option Addr) (nt ct : Nat) (T : List Int) (pr : Option Addr) (nr cr : Nat) (R : List Int) (pv : Option Addr) (nv cv : Nat) (V : List Int) (pp : Option Addr) (np cp : Nat) (hs : List Hd) (L : List Po) (pw : Option Addr) (nw cw : Nat) (ws : List ByteArray) (rad : Int) (w : World) (hO : Rd w 1 po no (encI O)) (hT : Rd w 1 pt nt (encI T)) (hR : Rd w 1 pr nr (encI R)) (hV : Rd w 1 pv nv (encI V)) (hct : nt ≤ ct) (hcv : nv ≤ cv) (hL : RdP w pp np hs L) (hok : PoOk L) (hW : Rd w 1 pw nw (encS ws)) (hcw : nw ≤ cw) (hnw : nw ≤ 100) :
    Calls Tryz.prog 36 #[.agg #[.slice po no co, .slice pt nt ct, .slice pr nr cr, .slice pv nv cv], .slice pp np cp, .slice pw nw cw, .int .i64 rad] w fun e w' => ∃ q c, e = .returned (.tuple #[.slice q (countR (checkR O T R V) O T R V L ws rad).length c, .int .i64 (countC (checkR O T R V) ws rad)]) ∧ Sep w w' [.own 3 1 q (countR (checkR O T R V) O T R V L ws rad).length c (encI (countR (checkR O T R V) O T R V L ws rad))] := by
  obtain ⟨i0, hi0, hz0, hz1, hz2⟩ := info_parts infI
  have HC := Lib.hid (fun W (h : Ext w W) => CheckR po no co O pt nt ct T pr nr cr R pv nv cv V W (hO.ext h) (hT.ext h) (hR.ext h) (hV.ext h) hct hcv)
  have S0 := Lib.hid ((Sep.start w).al #[.slice po no co, .slice pt nt ct, .slice pr nr cr, .slice pv nv cv] 41 w.heap.size rfl)
  have hwl := hW.nS
  have lO := hO.nI
  cases hck : checkR O T R V with
  | false =>
    rw [hck] at HC
    clear hO hT hR hV hct hcv hL hok hW hcw hnw hwl lO
    show Calls _ _ _ _ fun e w' => ∃ q c, e = .returned (.tuple #[.slice q 0 c, .int .i64 40]) ∧ Sep w w' [.own 3 1 q 0 c []]
    go_enter Tryz.func36, Tryz.ntmps36
    go_wp2_with (go_at_call 56; go_must (refine (HC.out _ S0.out.ext).mono ?_; rintro e w1 ⟨rfl, hb⟩; have S1 := Lib.hid (S0.out.call hb); have xz := (S1.out.blk 0 rfl).lt; have x0 := (S1.out.blk 0 rfl).cell 0; have x1 := (S1.out.blk 0 rfl).cell 1; have x2 := (S1.out.blk 0 rfl).cell 2; have x3 := (S1.out.blk 0 rfl).cell 3; clear hb))
    go_ret2
    exact ⟨none, 0, rfl, ((Sep.start w).call S1.out.ext).nilrow _ _⟩
  | true =>
    rw [hck] at HC
    by_cases h0 : nw = 0
    · have e1 : countC true ws rad = 1 := by unfold countC; rw [if_pos rfl, if_pos (.inl (by omega))]
      have e2 : countR true O T R V L ws rad = [] := by unfold countR; rw [e1, if_neg (by decide)]
      rw [e1, e2]
      subst h0
      clear hO hT hR hV hct hcv hL hok hW hcw hnw hwl lO e1 e2
      go_enter Tryz.func36, Tryz.ntmps36
      go_wp2_with (go_at_call 56; go_must (refine (HC.out _ S0.out.ext).mono ?_; rintro e w1 ⟨rfl, hb⟩; have S1 := Lib.hid (S0.out.call hb); have xz := (S1.out.blk 0 rfl).lt; have x0 := (S1.out.blk 0 rfl).cell 0; have x1 := (S1.out.blk 0 rfl).cell 1; have x2 := (S1.out.blk 0 rfl).cell 2; have x3 := (S1.out.blk 0 rfl).cell 3; clear hb))
      go_ret2
      exact ⟨none, 0, rfl, ((Sep.start w).call S1.out.ext).nilrow _ _⟩
    · have c1 : ((nw : Int) == 0) = false := by rw [beq_eq_false_iff_ne]; omega
      have c1n : (nw == 0) = false := by rw [beq_eq_false_iff_ne]; omega
      by_cases h1 : rad < 0
      · have c2 : decide (rad < 0) = true := by simpa using h1
        have e1 : countC true ws rad = 1 := by unfold countC; rw [if_pos rfl, if_pos (.inr h1)]
        have e2 : countR true O T R V L ws rad = [] := by unfold countR; rw [e1, if_neg (by decide)]
        rw [e1, e2]
        clear hO hT hR hV hct hcv hL hok hW hcw hnw hwl lO e1 e2 h1
        go_enter Tryz.func36, Tryz.ntmps36
        go_wp2_with (go_at_call 56; go_must (refine (HC.out _ S0.out.ext).mono ?_; rintro e w1 ⟨rfl, hb⟩; have S1 := Lib.hid (S0.out.call hb); have xz := (S1.out.blk 0 rfl).lt; have x0 := (S1.out.blk 0 rfl).cell 0; have x1 := (S1.out.blk 0 rfl).cell 1; have x2 := (S1.out.blk 0 rfl).cell 2; have x3 := (S1.out.blk 0 rfl).cell 3; clear hb))
        go_ret2
        exact ⟨none, 0, rfl, ((Sep.start w).call S1.out.ext).nilrow _ _⟩
      · have c2 : decide (rad < 0) = false := by simpa using h1
        have hcon : ¬ (ws.length = 0 ∨ rad < 0) := by rintro (h | h) <;> omega
        have e1 : countC true ws rad = 0 := by unfold countC; rw [if_pos rfl, if_neg hcon]
        have r := offB_parts (halfB_off (checkR_half hck).2.2.1)
        obtain ⟨n, hno⟩ : ∃ n, O.length = n + 1 := ⟨O.length - 1, by omega⟩
        have e2 : countR true O T R V L ws rad = (List.range n).map fun v : Nat => ((nearR true O T R V (v : Int) L ws rad).length : Int) := by unfold countR; rw [e1, if_pos rfl, hno]; rfl
        have hn1 : n ≤ 200 ∧ no = n + 1 := by omega
        obtain ⟨g1, rfl⟩ := hn1
        have HHI := Lib.hid (fun (v : Nat) (hv : v < n) W (h : Ext w W) => by
          have := NHitsG po (n + 1) co O pt nt ct T pr nr cr R pv nv cv V pp np cp hs L pw nw cw ws (v : Int) rad W (hO.ext h) (hT.ext h) (hR.ext h) (hV.ext h) hct hcv (hL.ext h) hok (hW.ext h) hcw hnw
          rw [hck, countC_run hno hv hcon] at this
          exact this)
        rw [e1, e2, List.length_map, List.length_range]
        have HLN := Lib.hid (fun v : Nat => nearR_len (ck := true) (O := O) (T := T) (R := R) (V := V) (s := (v : Int)) (ws := ws) (rad := rad) hok)
        clear hO hT hR hV hct hcv hL hok hW hcw hnw hwl lO e1 e2 h1 h0 hcon r hno hck
        obtain ⟨f, hf⟩ : ∃ f : Nat → List (Int × Int), ∀ v : Nat, nearR true O T R V (v : Int) L ws rad = f v := ⟨_, fun v => rfl⟩
        simp only [hf] at HHI HLN ⊢
        clear hf
        have d0 : (0:Int) ≤ (n:Int) + 1 - 1 := by omega
        go_enter Tryz.func36, Tryz.ntmps36
        go_wp2_with (first
          | (at_make; have _t := S1; go_must (refine wpList_make_sep rfl _ _ _ rfl 3 i0 _ 1 Tryz.underlying39 hi0 hz0 hz1 (n:Int) n rfl rfl rfl (by rw [hz2]; omega) (by unfold maxLen; omega) S1.out ?_; intro w2 S'; rw [made_encI] at S'; have S2 := Lib.hid S'; clear S'))
          | (go_at_call 56; go_must (refine (HC.out _ S0.out.ext).mono ?_; rintro e w1 ⟨rfl, hb⟩; have S1 := Lib.hid (S0.out.call hb); have xz := (S1.out.blk 0 rfl).lt; have x0 := (S1.out.blk 0 rfl).cell 0; have x1 := (S1.out.blk 0 rfl).cell 1; have x2 := (S1.out.blk 0 rfl).cell 2; have x3 := (S1.out.blk 0 rfl).cell 3; clear hb)))
        have HC1 := Lib.hid (fun v (hv : v < n) W (h : Ext w W) => HHI.out v hv W h)
        clear HHI S0 HC x0 x1 x2 x3 xz
        generalize hq0 : (some ⟨w1.heap.size, 0, none⟩ : Option Addr) = q0 at *
        clear hq0 S1
        go_loopw [11, 12, 13, 33] (fun _ _ _ i wr => ∃ (k : Nat) (X : List Int), k ≤ n ∧ i = .int .i64 k ∧ X.length = n ∧ Hid (∀ v, v < k → nth X v = ((f v).length : Int)) ∧ Sep w wr [.own 3 1 q0 n n (encI X), .blk w.heap.size 41 #[.slice po (n + 1) co, .slice pt nt ct, .slice pr nr cr, .slice pv nv cv]]) (fun _ _ _ i _ => n - (intOf i).toNat)
        case atStart => exact ⟨0, _, Nat.zero_le _, rfl, by simp, fun v hv => by omega, S2.out⟩
        case round =>
          clear S2
          obtain ⟨k, X, hk, rfl, hX, HX, S⟩ := hrel
          have xz := (S.blk 1 rfl).lt; have x0 := (S.blk 1 rfl).cell 0; have x1 := (S.blk 1 rfl).cell 1; have x2 := (S.blk 1 rfl).cell 2; have x3 := (S.blk 1 rfl).cell 3
          by_cases hlt : k < n
          · have HCk := Lib.hid (fun W (h : Ext w W) => HC1.out k hlt W h)
            have hlk := HLN.out k
            have d1 : (0:Int) ≤ k := by omega
            have d2 : (k:Int) < n := by omega
            have HXL := Lib.hid hX
            have HX2 : Hid (∀ v, v < k + 1 → nth (X.set k ((f k).length : Int)) v = ((f v).length : Int)) := fun v hv => by
              by_cases e : v = k
              · subst e; rw [nth_setg (by rw [HXL.out]; omega), if_pos rfl]
              · rw [nth_setg (by rw [HXL.out]; omega), if_neg e]; exact HX.out v (by omega)
            clear hX
            generalize f k = fk at *
            have pq := (S.rdx 0 rfl).ptr
            have SH := Lib.hid S; clear S
            go_wp2_with (go_at_call 29; go_must (refine (HCk.out _ SH.out.ext).mono ?_; rintro e w5 ⟨q5, c5, rfl, Z⟩; have S5 := Lib.hid (SH.out.comp Z); have z0 := own_cell ((SH.out.comp Z).own 1 rfl) (k := k) (by omega); have z1 := own_frozen ((SH.out.comp Z).own 1 rfl) (by omega) k; have z2 := World.block_lt_of_cell? w5 _ z0; clear Z))
            go_roundw
            case rel => exact ⟨k + 1, X.set k (fk.length : Int), by omega, by go_num, by rw [List.length_set]; exact HXL.out, HX2.out, by rw [← encI_set]; exact (S5.out.setRow 1 rfl k (by omega) (.int .i64 fk.length)).pick [1, 2] (by decide) rfl⟩
            case measure => simp [intOf]; omega
          · obtain rfl : k = n := by omega
            have HF : Hid (X = (List.range k).map fun v : Nat => ((f v).length : Int)) := by
              unfold Hid
              refine List.ext_getElem (by simp [hX]) fun i h1 h2 => ?_
              have := HX.out i (by omega)
              rw [nth_eq h1] at this
              rw [this]; simp
            rw [HF.out] at S
            clear hX HX
            have SH := Lib.hid S; clear S
            go_wp2
            go_ret2
            exact ⟨q0, k, rfl, SH.out.pick [0] (by decide) rfl⟩
set_option maxRecDepth 100000 in
set_option maxHeartbeats 8000000 in
theorem Count09 (po : Option Addr) (no co : Nat) (O : List Int) (pt : Option Addr) (nt ct : Nat) (T : List Int) (pr : Option Addr) (nr cr : Nat) (R : List Int) (pv : Option Addr) (nv cv : Nat) (V : List Int) (pp : Option Addr) (np cp : Nat) (hs : List Hd) (L : List Po) (pw : Option Addr) (nw cw : Nat) (ws : List ByteArray) (rad : Int) (w : World) (hO : Rd w 1 po no (encI O)) (hT : Rd w 1 pt nt (encI T)) (hR : Rd w 1 pr nr (encI R)) (hV : Rd w 1 pv nv (encI V)) (hct : nt ≤ ct) (hcv : nv ≤ cv) (hL : RdP w pp np hs L) (hok : PoOk L) (hW : Rd w 1 pw nw (encS ws)) (hcw : nw ≤ cw) (hnw : nw ≤ 100) :
    Calls Tryz.prog 37 #[.agg #[.slice po no co, .slice pt nt ct, .slice pr nr cr, .slice pv nv cv], .slice pp np cp, .slice pw nw cw, .int .i64 rad] w fun e w' => ∃ q c, e = .returned (.tuple #[.slice q (countR (checkR O T R V) O T R V L ws rad).length c, .int .i64 (countC (checkR O T R V) ws rad)]) ∧ Sep w w' [.own 3 1 q (countR (checkR O T R V) O T R V L ws rad).length c (encI (countR (checkR O T R V) O T R V L ws rad))] := by
  obtain ⟨i0, hi0, hz0, hz1, hz2⟩ := info_parts infI
  have HC := Lib.hid (fun W (h : Ext w W) => Check04 po no co O pt nt ct T pr nr cr R pv nv cv V W (hO.ext h) (hT.ext h) (hR.ext h) (hV.ext h) hct hcv)
  have S0 := Lib.hid ((Sep.start w).al #[.slice po no co, .slice pt nt ct, .slice pr nr cr, .slice pv nv cv] 41 w.heap.size rfl)
  have hwl := hW.nS
  have lO := hO.nI
  cases hck : checkR O T R V with
  | false =>
    rw [hck] at HC
    show Calls _ _ _ _ fun e w' => ∃ q c, e = .returned (.tuple #[.slice q 0 c, .int .i64 40]) ∧ Sep w w' [.own 3 1 q 0 c []]
    clear hO hT hR hV hct hcv hL hok hW hcw hnw hwl lO hck
    go_enter Tryz.func37, Tryz.ntmps37
    go_wp2_with (go_at_call 57; go_must (refine (HC.out _ S0.out.ext).mono ?_; rintro e w1 ⟨rfl, hb⟩; have S1 := Lib.hid (S0.out.call hb); have xz := (S1.out.blk 0 rfl).lt; have x0 := (S1.out.blk 0 rfl).cell 0; have x1 := (S1.out.blk 0 rfl).cell 1; have x2 := (S1.out.blk 0 rfl).cell 2; have x3 := (S1.out.blk 0 rfl).cell 3; clear hb))
    go_ret2
    exact ⟨none, 0, rfl, ((Sep.start w).call S1.out.ext).nilrow _ _⟩
  | true =>
    rw [hck] at HC
    by_cases h0 : nw = 0
    · have e1 : countC true ws rad = 1 := by unfold countC; rw [if_pos rfl, if_pos (.inl (by omega))]
      have e2 : countR true O T R V L ws rad = [] := by unfold countR; rw [e1, if_neg (by decide)]
      rw [e1, e2]
      subst h0
      clear hO hT hR hV hct hcv hL hok hW hcw hnw hwl lO e1 e2
      go_enter Tryz.func37, Tryz.ntmps37
      go_wp2_with (go_at_call 57; go_must (refine (HC.out _ S0.out.ext).mono ?_; rintro e w1 ⟨rfl, hb⟩; have S1 := Lib.hid (S0.out.call hb); have xz := (S1.out.blk 0 rfl).lt; have x0 := (S1.out.blk 0 rfl).cell 0; have x1 := (S1.out.blk 0 rfl).cell 1; have x2 := (S1.out.blk 0 rfl).cell 2; have x3 := (S1.out.blk 0 rfl).cell 3; clear hb))
      go_ret2
      exact ⟨none, 0, rfl, ((Sep.start w).call S1.out.ext).nilrow _ _⟩
    · have c1 : ((nw : Int) == 0) = false := by rw [beq_eq_false_iff_ne]; omega
      have c1n : (nw == 0) = false := by rw [beq_eq_false_iff_ne]; omega
      by_cases h1 : rad < 0
      · have c2 : decide (rad < 0) = true := by simpa using h1
        have e1 : countC true ws rad = 1 := by unfold countC; rw [if_pos rfl, if_pos (.inr h1)]
        have e2 : countR true O T R V L ws rad = [] := by unfold countR; rw [e1, if_neg (by decide)]
        rw [e1, e2]
        clear hO hT hR hV hct hcv hL hok hW hcw hnw hwl lO e1 e2 h1
        go_enter Tryz.func37, Tryz.ntmps37
        go_wp2_with (go_at_call 57; go_must (refine (HC.out _ S0.out.ext).mono ?_; rintro e w1 ⟨rfl, hb⟩; have S1 := Lib.hid (S0.out.call hb); have xz := (S1.out.blk 0 rfl).lt; have x0 := (S1.out.blk 0 rfl).cell 0; have x1 := (S1.out.blk 0 rfl).cell 1; have x2 := (S1.out.blk 0 rfl).cell 2; have x3 := (S1.out.blk 0 rfl).cell 3; clear hb))
        go_ret2
        exact ⟨none, 0, rfl, ((Sep.start w).call S1.out.ext).nilrow _ _⟩
      · have c2 : decide (rad < 0) = false := by simpa using h1
        have hcon : ¬ (ws.length = 0 ∨ rad < 0) := by rintro (h | h) <;> omega
        have e1 : countC true ws rad = 0 := by unfold countC; rw [if_pos rfl, if_neg hcon]
        have r := offB_parts (halfB_off (checkR_half hck).2.2.1)
        obtain ⟨n, hno⟩ : ∃ n, O.length = n + 1 := ⟨O.length - 1, by omega⟩
        have e2 : countR true O T R V L ws rad = (List.range n).map fun v : Nat => ((nearR true O T R V (v : Int) L ws rad).length : Int) := by unfold countR; rw [e1, if_pos rfl, hno]; rfl
        have hn1 : n ≤ 200 ∧ no = n + 1 := by omega
        obtain ⟨g1, rfl⟩ := hn1
        have HHI := Lib.hid (fun (v : Nat) (hv : v < n) W (h : Ext w W) => by
          have := Hits09 po (n + 1) co O pt nt ct T pr nr cr R pv nv cv V pp np cp hs L pw nw cw ws (v : Int) rad W (hO.ext h) (hT.ext h) (hR.ext h) (hV.ext h) hct hcv (hL.ext h) hok (hW.ext h) hcw hnw
          rw [hck, countC_run hno hv hcon] at this
          exact this)
        rw [e1, e2, List.length_map, List.length_range]
        have HLN := Lib.hid (fun v : Nat => nearR_len (ck := true) (O := O) (T := T) (R := R) (V := V) (s := (v : Int)) (ws := ws) (rad := rad) hok)
        clear hO hT hR hV hct hcv hL hok hW hcw hnw hwl lO e1 e2 h1 h0 hcon r hno hck
        obtain ⟨f, hf⟩ : ∃ f : Nat → List (Int × Int), ∀ v : Nat, nearR true O T R V (v : Int) L ws rad = f v := ⟨_, fun v => rfl⟩
        simp only [hf] at HHI HLN ⊢
        clear hf
        go_enter Tryz.func37, Tryz.ntmps37
        go_wp2_with (go_at_call 57; go_must (refine (HC.out _ S0.out.ext).mono ?_; rintro e w1 ⟨rfl, hb⟩; have S1 := Lib.hid (S0.out.call hb); have xz := (S1.out.blk 0 rfl).lt; have x0 := (S1.out.blk 0 rfl).cell 0; have x1 := (S1.out.blk 0 rfl).cell 1; have x2 := (S1.out.blk 0 rfl).cell 2; have x3 := (S1.out.blk 0 rfl).cell 3; clear hb))
        have HC1 := Lib.hid (fun v (hv : v < n) W (h : Ext w W) => HHI.out v hv W h)
        have S2 := Lib.hid (S1.out.nilrow 3 1)
        clear HHI S0 HC x0 x1 x2 x3 xz S1
        go_loopw [10, 11, 12, 13] (fun v10 i _ _ wr => ∃ (k : Nat) (q : Option Addr) (c : Nat), k ≤ n ∧ i = .int .i64 k ∧ v10 = .slice q k c ∧ Sep w wr [.own 3 1 q k c (encI ((List.range k).map fun v : Nat => ((f v).length : Int))), .blk w.heap.size 41 #[.slice po (n + 1) co, .slice pt nt ct, .slice pr nr cr, .slice pv nv cv]]) (fun _ i _ _ _ => n - (intOf i).toNat)
        case atStart => exact ⟨0, none, 0, Nat.zero_le _, rfl, rfl, S2.out⟩
        case round =>
          clear S2
          obtain ⟨k, q, c, hk, rfl, rfl, S⟩ := hrel
          have xz := (S.blk 1 rfl).lt; have x0 := (S.blk 1 rfl).cell 0; have x1 := (S.blk 1 rfl).cell 1; have x2 := (S.blk 1 rfl).cell 2; have x3 := (S.blk 1 rfl).cell 3
          by_cases hlt : k < n
          · have HCk := Lib.hid (fun W (h : Ext w W) => HC1.out k hlt W h)
            have hlk := HLN.out k
            have d1 : (0:Int) ≤ k := by omega
            have d2 : (k:Int) < n := by omega
            have d3 : (k:Int) < (n:Int) + 1 - 1 := by omega
            have HST : Hid ((List.range (k + 1)).map (fun v : Nat => ((f v).length : Int)) = (List.range k).map (fun v : Nat => ((f v).length : Int)) ++ [((f k).length : Int)]) := by unfold Hid; rw [List.range_succ, List.map_append]; rfl
            generalize f k = fk at *
            have SH := Lib.hid S; clear S
            go_wp2_with (first
              | (at_builtin; go_must (refine wpList_append_sep rfl _ _ _ rfl 3 i0 _ 1 8 Tryz.underlying39 hi0 hz0 hz1 hz2 rfl (by omega) (S5.out.junk _) 0 q k c _ rfl rfl _ 1 1 _ rfl (Rd.oneI _ _ _) (one_encI _) (by omega) (by omega) ?_; intro q6 c6 w6 S' hsz; have S6 := Lib.hid S'; clear S' hsz))
              | (go_at_call 30; go_must (refine (HCk.out _ SH.out.ext).mono ?_; rintro e w5 ⟨q5, c5, rfl, Z⟩; have S5 := Lib.hid ((SH.out.comp Z).pick [1, 2] (by decide) rfl); clear Z)))
            go_roundw
            case rel => exact ⟨k + 1, q6, c6, by omega, by go_num, rfl, by rw [HST.out, encI_append]; exact S6.out⟩
            case measure => simp [intOf]; omega
          · obtain rfl : k = n := by omega
            have d3 : decide ((k:Int) < (k:Int) + 1 - 1) = false := by simp
            have SH := Lib.hid S; clear S
            go_wp2
            go_ret2
            exact ⟨q, c, rfl, SH.out.pick [0] (by decide) rfl⟩
end Go.Proofs.YtkekibnhmfmhmaaGreat
/- The document's Same of hits (chapter 9, reference). -/
namespace Go.Proofs.YtkekibnhmfmhmaaGreat
open Go Go.RowKit
theorem eqHit9 (a b c d : Int) (w : World) : (binOp .eql 61 (.agg #[.int .i64 a, .int .i64 b]) (.agg #[.int .i64 c, .int .i64 d])).run Tryz.prog w = .ok (.bool (eqE (a, b) (c, d))) w := by
  have u3 := Tryz.underlying3
  have a3 := Tryz.isAgg3
  have z3 := Tryz.sizeOf3
  have hS : Tryz.prog.underlying 61 = some (.struct (Tryz.prog.fieldsOf 61)) := by kernel_rfl
  have hp : Tryz.prog.stoodInHeld 61 = false := by kernel_rfl
  rw [run_eql_struct, show (10000 : Nat) = 9999 + 1 from rfl, run_equalIn_agg w 9999 61 _ _ hS hp]
  simp only [Program.fieldsOf, Tryz.underlying61]
  go_simp
  by_cases h1 : a = c <;> by_cases h2 : b = d <;> simp [h1, h2, eqE]
theorem neqHit9 (a b c d : Int) (w : World) : (binOp .neq 61 (.agg #[.int .i64 a, .int .i64 b]) (.agg #[.int .i64 c, .int .i64 d])).run Tryz.prog w = .ok (.bool (!eqE (a, b) (c, d))) w := by
  have h := eqHit9 a b c d w
  rw [run_eql_struct] at h
  rw [run_neq_struct]
  generalize (Op.equalIn 10000 61 (.agg #[.int .i64 a, .int .i64 b]) (.agg #[.int .i64 c, .int .i64 d])).run Tryz.prog w = r at h ⊢
  cases r with
  | ok x w1 => simp only [Result.andThen_ok, Result.ok.injEq, Value.bool.injEq] at h ⊢; rw [h.1, h.2]; simp
  | halt x w1 => simp [Result.andThen] at h
theorem guardHit9 (op : BinOp) (x y : Operand) (xs ys : Array Value) (w : World) : (eqGuard op 61 x y (.agg xs) (.agg ys)).run Tryz.prog w = .ok () w := run_eqGuard_agg w op 61 x y xs ys (by kernel_rfl)

attribute [local go_sem ↓] eqHit9 neqHit9 guardHit9
set_option maxRecDepth 100000 in
set_option maxHeartbeats 4000000 in
theorem HitsY9 (p q : Option Addr) (n m c d : Nat) (E : List (Int × Int)) (w : World) (h1 : Rd w 2 p n (encE E)) (h2 : Rd w 2 q m (encE E)) :
    Calls Tryz.prog 34 #[.slice p n c, .slice q m d] w fun e w' => e = .returned (.bool true) ∧ Ext w w' := by
  obtain rfl : n = m := by rw [h1.nE, h2.nE]
  have p1 := h1.ptr
  have p2 := h2.ptr
  have n1 := h1.small
  have H1 := Lib.hid h1; clear h1
  have H2 := Lib.hid h2; clear h2
  go_enter Tryz.func34, Tryz.ntmps34
  go_wp2
  go_loopw [5] (fun i wr => ∃ k : Nat, k ≤ n ∧ i = .int .i64 k ∧ Ext w wr) (fun i _ => n - (intOf i).toNat)
  case atStart => exact ⟨0, Nat.zero_le _, rfl, Below.refl _ _⟩
  case round =>
    obtain ⟨k, hk, rfl, hE⟩ := hrel
    by_cases hlt : k < n
    · have g1 := hE.cell (H1.out.cE hlt)
      have g2 := hE.cell (H1.out.cE2 hlt)
      have g3 := hE.cell (H2.out.cE hlt)
      have g4 := hE.cell (H2.out.cE2 hlt)
      have d1 : (0:Int) ≤ k := by omega
      have d2 : (k:Int) < n := by omega
      have hq : eqE ((nth E k).1, (nth E k).2) ((nth E k).1, (nth E k).2) = true := by simp [eqE]
      have HE := Lib.hid hE; clear hE
      go_wp2
      go_quiet (fail)
      go_wp2
      go_roundw
      case rel => exact ⟨k + 1, by omega, by go_num, HE.out.drewN _⟩
      case measure => simp [intOf]; omega
    · have HE := Lib.hid hE; clear hE
      go_wp2
      go_ret
      exact ⟨rfl, HE.out⟩
end Go.Proofs.YtkekibnhmfmhmaaGreat
/- The document's example of chapter 9. -/
namespace Go.Proofs.YtkekibnhmfmhmaaGreat
open Go Go.RowKit
attribute [local go_sem ↓] eqHit9 neqHit9 guardHit9
def e9E : List (Int × Int) := [(0, 1), (1, 2)]
def e9O : List Int := [0, 1, 2, 2]
def e9T : List Int := [1, 2]
def e9R : List Int := [0, 0, 1, 2]
def e9V : List Int := [0, 1]
def e9a : ByteArray := ⟨#[97]⟩
def e9L : List Po := [(e9a, [0, 2])]
theorem e9I : isB 3 e9E [[], [], []] = true := by decide +kernel
theorem e9O_eq : offL 3 e9E = e9O := by decide +kernel
theorem e9T_eq : toL e9E = e9T := by decide +kernel
theorem e9R_eq : offL 3 (turnE e9E) = e9R := by decide +kernel
theorem e9V_eq : toL (turnE e9E) = e9V := by decide +kernel
theorem e9Ck : checkR e9O e9T e9R e9V = true := by decide +kernel
theorem e9H2 : nearR true e9O e9T e9R e9V 0 e9L [e9a] 2 = [(0, 0), (2, 2)] := by decide +kernel
theorem e9H1 : nearR true e9O e9T e9R e9V 0 e9L [e9a] 1 = [(0, 0)] := by decide +kernel
theorem e9F : nearR true e9O e9T e9R e9V 1 e9L [e9a] 200 = [(2, 1)] := by decide +kernel
theorem e9N : countR true e9O e9T e9R e9V e9L [e9a] 1 = [1, 1, 1] := by decide +kernel
theorem e9Z : nearR true e9O e9T e9R e9V 0 e9L [] 1 = [] := by decide +kernel
theorem e9C : nearC true e9O 0 [e9a] 2 = 0 ∧ nearC true e9O 0 [e9a] 1 = 0 ∧ nearC true e9O 1 [e9a] 200 = 0 ∧ countC true [e9a] 1 = 0 ∧ nearC true e9O 0 [] 1 = 1 := by decide +kernel
theorem e9Ok : PoOk e9L := fun p hp => by
  simp [e9L] at hp; subst hp
  exact ⟨by decide, fun x hx => by simp at hx; rcases hx with rfl | rfl <;> (unfold I64; decide)⟩
theorem e9Cells : (#[.int .i64 0, .int .i64 1, .int .i64 1, .int .i64 2] : Array Value).toList = encE e9E := by simp [encE, e9E]
theorem made3n : (madeCells (Value.slice none 0 0).cells (3 * 1)).toList = [.slice none 0 0, .slice none 0 0, .slice none 0 0] := by kernel_rfl
theorem e9Mk (p q : Option Addr) (W : World) (h1 : Rd W 2 p 2 (encE e9E)) (h0 : Rd W 1 q 3 [.slice none 0 0, .slice none 0 0, .slice none 0 0]) : Calls Tryz.prog 73 #[.agg #[.int .i64 3, .slice p 2 2, .slice q 3 3]] W fun e w' =>
    ∃ po no co pt nt ct pr nr cr pv nv cv, e = .returned (.tuple #[.agg #[.slice po no co, .slice pt nt ct, .slice pr nr cr, .slice pv nv cv], .int .i64 0]) ∧ R4 w' po no pt nt pr nr pv nv e9O e9T e9R e9V ∧ nt ≤ ct ∧ nv ≤ cv ∧ Ext W w' := by
  have h2 : RdW W q 3 [⟨none, 0, 0⟩, ⟨none, 0, 0⟩, ⟨none, 0, 0⟩] [[], [], []] := ⟨rfl, h0, fun j hj => by
    have : j = 0 ∨ j = 1 ∨ j = 2 := by omega
    rcases this with rfl | rfl | rfl <;> exact Rd.nil _ _ _⟩
  have hz : SzW [[], [], []] := fun l hl s hs => by simp at hl; subst hl; cases hs
  refine (RMakeG_yes 3 _ 2 2 _ 3 3 e9E _ _ W h1 h2 hz e9I).mono ?_
  rintro e w' ⟨v, rfl, ⟨po, no, co, pt, nt, ct, pr, nr, cr, pv, nv, cv, rfl, k1, k2, k3, k4, k5, k6, k7, k8⟩, hb⟩
  rw [e9O_eq] at k1
  rw [e9T_eq] at k2
  rw [e9R_eq] at k3
  rw [e9V_eq] at k4
  exact ⟨po, no, co, pt, nt, ct, pr, nr, cr, pv, nv, cv, rfl, ⟨k1, k2, k3, k4⟩, k6, k8, hb⟩
theorem e9h2 (po : Option Addr) (no co : Nat) (pt : Option Addr) (nt ct : Nat) (pr : Option Addr) (nr cr : Nat) (pv : Option Addr) (nv cv : Nat) (hct : nt ≤ ct) (hcv : nv ≤ cv) (pp : Option Addr) (hs : List Hd) (w : World) (h : R4 w po no pt nt pr nr pv nv e9O e9T e9R e9V) (hL : RdP w pp 1 hs e9L) (pw : Option Addr) (hW : Rd w 1 pw 1 (encS [e9a])) : Calls Tryz.prog 29 #[.agg #[.slice po no co, .slice pt nt ct, .slice pr nr cr, .slice pv nv cv], .slice pp 1 1, .int .i64 0, .slice pw 1 1, .int .i64 2] w fun e w' => ∃ q c, e = .returned (.tuple #[.slice q 2 c, .int .i64 0]) ∧ Sep w w' [.own 61 2 q 2 c (encE [(0, 0), (2, 2)])] := by
  have := NHitsG po no co e9O pt nt ct e9T pr nr cr e9R pv nv cv e9V pp 1 1 hs e9L pw 1 1 [e9a] 0 2 w h.o h.t h.r h.v hct hcv hL e9Ok hW (by decide) (by decide)
  rw [e9Ck, e9H2, e9C.1] at this
  exact this
theorem e9h1 (po : Option Addr) (no co : Nat) (pt : Option Addr) (nt ct : Nat) (pr : Option Addr) (nr cr : Nat) (pv : Option Addr) (nv cv : Nat) (hct : nt ≤ ct) (hcv : nv ≤ cv) (pp : Option Addr) (hs : List Hd) (w : World) (h : R4 w po no pt nt pr nr pv nv e9O e9T e9R e9V) (hL : RdP w pp 1 hs e9L) (pw : Option Addr) (hW : Rd w 1 pw 1 (encS [e9a])) : Calls Tryz.prog 29 #[.agg #[.slice po no co, .slice pt nt ct, .slice pr nr cr, .slice pv nv cv], .slice pp 1 1, .int .i64 0, .slice pw 1 1, .int .i64 1] w fun e w' => ∃ q c, e = .returned (.tuple #[.slice q 1 c, .int .i64 0]) ∧ Sep w w' [.own 61 2 q 1 c (encE [(0, 0)])] := by
  have := NHitsG po no co e9O pt nt ct e9T pr nr cr e9R pv nv cv e9V pp 1 1 hs e9L pw 1 1 [e9a] 0 1 w h.o h.t h.r h.v hct hcv hL e9Ok hW (by decide) (by decide)
  rw [e9Ck, e9H1, e9C.2.1] at this
  exact this
theorem e9f (po : Option Addr) (no co : Nat) (pt : Option Addr) (nt ct : Nat) (pr : Option Addr) (nr cr : Nat) (pv : Option Addr) (nv cv : Nat) (hct : nt ≤ ct) (hcv : nv ≤ cv) (pp : Option Addr) (hs : List Hd) (w : World) (h : R4 w po no pt nt pr nr pv nv e9O e9T e9R e9V) (hL : RdP w pp 1 hs e9L) (pw : Option Addr) (hW : Rd w 1 pw 1 (encS [e9a])) : Calls Tryz.prog 31 #[.agg #[.slice po no co, .slice pt nt ct, .slice pr nr cr, .slice pv nv cv], .slice pp 1 1, .int .i64 1, .slice pw 1 1] w fun e w' => e = .returned (.tuple #[.agg #[.int .i64 2, .int .i64 1], .bool true, .int .i64 0]) ∧ Ext w w' := by
  have := NFirstG po no co e9O pt nt ct e9T pr nr cr e9R pv nv cv e9V pp 1 1 hs e9L pw 1 1 [e9a] 1 w h.o h.t h.r h.v hct hcv hL e9Ok hW (by decide) (by decide)
  rw [e9Ck, e9F, e9C.2.2.1] at this
  exact this
theorem e9n (po : Option Addr) (no co : Nat) (pt : Option Addr) (nt ct : Nat) (pr : Option Addr) (nr cr : Nat) (pv : Option Addr) (nv cv : Nat) (hct : nt ≤ ct) (hcv : nv ≤ cv) (pp : Option Addr) (hs : List Hd) (w : World) (h : R4 w po no pt nt pr nr pv nv e9O e9T e9R e9V) (hL : RdP w pp 1 hs e9L) (pw : Option Addr) (hW : Rd w 1 pw 1 (encS [e9a])) : Calls Tryz.prog 36 #[.agg #[.slice po no co, .slice pt nt ct, .slice pr nr cr, .slice pv nv cv], .slice pp 1 1, .slice pw 1 1, .int .i64 1] w fun e w' => ∃ q c, e = .returned (.tuple #[.slice q 3 c, .int .i64 0]) ∧ Sep w w' [.own 3 1 q 3 c (encI [1, 1, 1])] := by
  have := NCountG po no co e9O pt nt ct e9T pr nr cr e9R pv nv cv e9V pp 1 1 hs e9L pw 1 1 [e9a] 1 w h.o h.t h.r h.v hct hcv hL e9Ok hW (by decide) (by decide)
  rw [e9Ck, e9N, e9C.2.2.2.1] at this
  exact this
theorem e9z (po : Option Addr) (no co : Nat) (pt : Option Addr) (nt ct : Nat) (pr : Option Addr) (nr cr : Nat) (pv : Option Addr) (nv cv : Nat) (hct : nt ≤ ct) (hcv : nv ≤ cv) (pp : Option Addr) (hs : List Hd) (w : World) (h : R4 w po no pt nt pr nr pv nv e9O e9T e9R e9V) (hL : RdP w pp 1 hs e9L) : Calls Tryz.prog 29 #[.agg #[.slice po no co, .slice pt nt ct, .slice pr nr cr, .slice pv nv cv], .slice pp 1 1, .int .i64 0, .slice none 0 0, .int .i64 1] w fun e w' => ∃ q c, e = .returned (.tuple #[.slice q 0 c, .int .i64 1]) ∧ Sep w w' [.own 61 2 q 0 c (encE [])] := by
  have := NHitsG po no co e9O pt nt ct e9T pr nr cr e9R pv nv cv e9V pp 1 1 hs e9L none 0 0 [] 0 1 w h.o h.t h.r h.v hct hcv hL e9Ok (Rd.nil _ _ _) (by decide) (by decide)
  rw [e9Ck, e9Z, e9C.2.2.2.2] at this
  exact this
/-- one posting, as rows that are the call's own -/
theorem rdp1 {w : World} {p q : Option Addr} {n c : Nat} {s : ByteArray} {l : List Int} (h1 : Rd w 2 p 1 [.string s, .slice q n c]) (h2 : Rd w 1 q n (encI l)) : RdP w p 1 [⟨q, n, c⟩] [(s, l)] := by
  refine ⟨rfl, .inr (h1.ptr.resolve_left (by decide)), by decide, fun k hk => ?_, fun k hk => ?_, fun k hk => ?_⟩
  · obtain rfl : k = 0 := by omega
    exact h1.cells 0 (by decide)
  · obtain rfl : k = 0 := by omega
    exact h1.cells 1 (by decide)
  · obtain rfl : k = 0 := by omega
    exact h2
set_option maxRecDepth 100000 in
set_option maxHeartbeats 8000000 in
theorem Nears (w : World) : Calls Tryz.prog 33 #[] w fun e w' => e = .returned (.bool true) ∧ Ext w w' := by
  obtain ⟨i0, hi0, hz0, hz1, hz2⟩ := info_parts inf35
  have SE : Hid (Sep w (w.alloc (.cells #[.int .i64 0, .int .i64 1, .int .i64 1, .int .i64 2] 108)) [.own 108 2 (some ⟨w.heap.size, 0, none⟩) 2 2 (encE e9E)]) := by
    have h := (Sep.start w).alrow #[.int .i64 0, .int .i64 1, .int .i64 1, .int .i64 2] 108 2 2 w.heap.size rfl (by decide) rfl
    rw [e9Cells] at h
    exact h
  have HQ : Hid ((w.alloc (.cells #[.int .i64 0, .int .i64 1, .int .i64 1, .int .i64 2] 108)).heap.size = w.heap.size + 1) := by unfold Hid; simp
  go_enter Tryz.func33, Tryz.ntmps33
  go_wp2_with (first
    | (at_make; go_must (refine wpList_make_sep rfl _ _ _ rfl 22 i0 _ 1 Tryz.underlying110 hi0 hz0 hz1 (3:Int) 3 rfl rfl rfl (by rw [hz2]; omega) (by unfold maxLen; omega) SE.out ?_; intro w0 S'; rw [made3n, HQ.out] at S'; have S0 := Lib.hid S'; clear S'))
    | (go_at_call 73; go_must (refine (e9Mk _ _ _ (S0.out.rd 1 rfl (by decide)) (S0.out.rd 0 rfl (by decide))).mono ?_; rintro e w1 ⟨po, no, co, pt, nt, ct, pr, nr, cr, pv, nv, cv, rfl, hr, hct, hcv, hb⟩; have E1 := Lib.hid (Ext.trans S0.out.ext hb); have HR := Lib.hid hr; have S1 := Lib.hid ((Sep.start w1).al #[.slice po no co, .slice pt nt ct, .slice pr nr cr, .slice pv nv cv] 41 w1.heap.size rfl); clear hb hr)))
  have S2 := Lib.hid (((S1.out.alrow #[.int .i64 0, .int .i64 2] 3 1 2 (w1.heap.size + 1) (by simp) (by decide) rfl).alrow #[.string ⟨#[97]⟩, .slice (some ⟨w1.heap.size + 1, 0, none⟩) 2 2] 98 2 1 (w1.heap.size + 1 + 1) (by simp) (by decide) rfl).alrow #[.string ⟨#[97]⟩] 9 1 1 (w1.heap.size + 1 + 1 + 1) (by simp) (by decide) rfl)
  have hEq : eqE ((2 : Int), (1 : Int)) (2, 1) = true := by decide
  go_wp2_with (first
    | (go_at_call 38; have _t := S14; go_must (have S15 := Lib.hid (S14.out.alrow #[.int .i64 1, .int .i64 1, .int .i64 1] 3 1 3 (w8.heap.size) rfl (by decide) rfl); refine (IntsY _ _ 3 3 _ _ [1, 1, 1] _ (S15.out.rdx 4 rfl) (S15.out.rdx 0 rfl)).mono ?_; rintro e w9 ⟨rfl, hb⟩; have S16 := Lib.hid (S15.out.call hb); clear hb))
    | (go_at_call 34; have _t := S12; go_must (have S13 := Lib.hid (S12.out.alrow #[.int .i64 0, .int .i64 0] 61 2 1 (w7.heap.size) rfl (by decide) rfl); refine (HitsY9 _ _ 1 1 _ _ [(0, 0)] _ (S13.out.rdx 7 rfl) (S13.out.rdx 0 rfl)).mono ?_; rintro e w8 ⟨rfl, hb⟩; have S14 := Lib.hid (S13.out.call hb); have h0 := (S14.out.blk 5 rfl).cell 0; have h1 := (S14.out.blk 5 rfl).cell 1; have hz := (S14.out.blk 5 rfl).lt; clear hb))
    | (go_at_call 34; have _t := S10; go_must (have S11 := Lib.hid (S10.out.alrow #[.int .i64 0, .int .i64 0, .int .i64 2, .int .i64 2] 61 2 2 (w6.heap.size) rfl (by decide) rfl); refine (HitsY9 _ _ 2 2 _ _ [(0, 0), (2, 2)] _ (S11.out.rdx 8 rfl) (S11.out.rdx 0 rfl)).mono ?_; rintro e w7 ⟨rfl, hb⟩; have S12 := Lib.hid (S11.out.call hb); clear hb))
    | (go_at_call 29; have _t := S9; go_must (refine (e9z po no co pt nt ct pr nr cr pv nv cv hct hcv _ _ _ (HR.out.ext S9.out.ext) (rdp1 (S9.out.rdx 8 rfl) (S9.out.rdx 9 rfl))).mono ?_; rintro e w6 ⟨q6, c6, rfl, Z⟩; have S10 := Lib.hid (S9.out.comp Z); clear Z))
    | (go_at_call 36; have _t := S7; go_must (have S8 := Lib.hid (S7.out.alrow #[.string ⟨#[97]⟩] 9 1 1 (w4.heap.size + 1) (by simp) (by decide) rfl); refine (e9n po no co pt nt ct pr nr cr pv nv cv hct hcv _ _ _ (HR.out.ext S8.out.ext) (rdp1 (S8.out.rdx 7 rfl) (S8.out.rdx 8 rfl)) _ (S8.out.rdx 0 rfl)).mono ?_; rintro e w5 ⟨q5, c5, rfl, Z⟩; have S9 := Lib.hid (S8.out.comp Z); have fz := (S9.out.blk 10 rfl).lt; have f0 := (S9.out.blk 10 rfl).cell 0; have f1 := (S9.out.blk 10 rfl).cell 1; have f2 := (S9.out.blk 10 rfl).cell 2; have f3 := (S9.out.blk 10 rfl).cell 3; clear Z))
    | (go_at_call 31; have _t := S5; go_must (have S6 := Lib.hid (S5.out.alrow #[.string ⟨#[97]⟩] 9 1 1 (w3.heap.size) rfl (by decide) rfl); refine (e9f po no co pt nt ct pr nr cr pv nv cv hct hcv _ _ _ (HR.out.ext S6.out.ext) (rdp1 (S6.out.rdx 5 rfl) (S6.out.rdx 6 rfl)) _ (S6.out.rdx 0 rfl)).mono ?_; rintro e w4 ⟨rfl, hb⟩; have S7 := Lib.hid ((S6.out.call hb).al #[.int .i64 2, .int .i64 1] 61 w4.heap.size rfl); have dz := (S7.out.blk 8 rfl).lt; have d0 := (S7.out.blk 8 rfl).cell 0; have d1 := (S7.out.blk 8 rfl).cell 1; have d2 := (S7.out.blk 8 rfl).cell 2; have d3 := (S7.out.blk 8 rfl).cell 3; clear hb))
    | (go_at_call 29; have _t := S3; go_must (have S4 := Lib.hid (S3.out.alrow #[.string ⟨#[97]⟩] 9 1 1 (w2.heap.size) rfl (by decide) rfl); refine (e9h1 po no co pt nt ct pr nr cr pv nv cv hct hcv _ _ _ (HR.out.ext S4.out.ext) (rdp1 (S4.out.rdx 3 rfl) (S4.out.rdx 4 rfl)) _ (S4.out.rdx 0 rfl)).mono ?_; rintro e w3 ⟨q3, c3, rfl, Z⟩; have S5 := Lib.hid (S4.out.comp Z); have bz := (S5.out.blk 6 rfl).lt; have b0 := (S5.out.blk 6 rfl).cell 0; have b1 := (S5.out.blk 6 rfl).cell 1; have b2 := (S5.out.blk 6 rfl).cell 2; have b3 := (S5.out.blk 6 rfl).cell 3; clear Z))
    | (go_at_call 29; go_must (refine (e9h2 po no co pt nt ct pr nr cr pv nv cv hct hcv _ _ _ (HR.out.ext S2.out.ext) (rdp1 (S2.out.rdx 1 rfl) (S2.out.rdx 2 rfl)) _ (S2.out.rdx 0 rfl)).mono ?_; rintro e w2 ⟨q2, c2, rfl, Z⟩; have S3 := Lib.hid (S2.out.comp Z); have az := (S3.out.blk 4 rfl).lt; have a0 := (S3.out.blk 4 rfl).cell 0; have a1 := (S3.out.blk 4 rfl).cell 1; have a2 := (S3.out.blk 4 rfl).cell 2; have a3 := (S3.out.blk 4 rfl).cell 3; clear Z)))
  go_ret
  exact ⟨rfl, Ext.trans E1.out S16.out.ext⟩
end Go.Proofs.YtkekibnhmfmhmaaGreat
/- What is not looked at (chapter 9). -/
namespace Go.Proofs.YtkekibnhmfmhmaaGreat
open Go Go.RowKit
def farB (O T R V : List Int) (L : List Po) (ws : List ByteArray) : Bool := !(ws.all fun s => decide (s.size ≤ 60)) || (bigR O T R V || (decide (30 < O.length) || (bigP L || decide (12 < ws.length))))
/-- what is known of what is looked at -/
theorem far_facts {O T R V : List Int} {L : List Po} {ws : List ByteArray} (h : farB O T R V L ws = false) (hI : ∀ q ∈ L, ∀ x ∈ q.2, I64 x) : PoOk L ∧ ws.length ≤ 12 ∧ (∀ s ∈ ws, s.size ≤ 60) ∧ O.length ≤ 30 ∧ R.length ≤ 250 ∧ T.length ≤ 2100 ∧ V.length ≤ 2100 ∧ L.length ≤ 40 := by
  unfold farB at h
  simp only [Bool.or_eq_false_iff, decide_eq_false_iff_not, Bool.not_eq_false'] at h
  obtain ⟨h1, h2, h3, h4, h5⟩ := h
  rw [List.all_eq_true] at h1
  unfold bigR at h2
  simp only [Bool.or_eq_false_iff, Bool.and_eq_false_iff, decide_eq_false_iff_not] at h2
  refine ⟨poOk_of h4 hI, by omega, fun s hs => by simpa using h1 s hs, by omega, by omega, by omega, by omega, (bigP_facts h4).1⟩
set_option maxRecDepth 100000 in
set_option maxHeartbeats 4000000 in
theorem FarG (po : Option Addr) (no co : Nat) (O : List Int) (pt : Option Addr) (nt ct : Nat) (T : List Int) (pr : Option Addr) (nr cr : Nat) (R : List Int) (pv : Option Addr) (nv cv : Nat) (V : List Int) (pp : Option Addr) (np cp : Nat) (hs : List Hd) (L : List Po) (pw : Option Addr) (nw cw : Nat) (ws : List ByteArray) (w : World) (hO : Rd w 1 po no (encI O)) (hT : Rd w 1 pt nt (encI T)) (hR : Rd w 1 pr nr (encI R)) (hV : Rd w 1 pv nv (encI V)) (hL : RdP w pp np hs L) (hW : Rd w 1 pw nw (encS ws)) :
    Calls Tryz.prog 27 #[.agg #[.slice po no co, .slice pt nt ct, .slice pr nr cr, .slice pv nv cv], .slice pp np cp, .slice pw nw cw] w fun e w' => e = .returned (.bool (farB O T R V L ws)) ∧ Ext w w' := by
  have HBig := Lib.hid (fun W1 (h : Ext w W1) => Big04 po no co O pt nt ct T pr nr cr R pv nv cv V W1 (hO.ext h) (hT.ext h) (hR.ext h) (hV.ext h))
  have HPb := Lib.hid (fun W1 (h : Ext w W1) => Big05 pp np cp hs L W1 (hL.ext h))
  have S0 := Lib.hid ((Sep.start w).al #[.slice po no co, .slice pt nt ct, .slice pr nr cr, .slice pv nv cv] 41 w.heap.size rfl)
  have p1 := hW.ptr
  have n1 := hW.small
  have L1 := Lib.hid hW.nS
  have HLO := Lib.hid hO.nI
  have noS := hO.small
  have HL := Lib.hid hW
  clear hO hT hR hV hL hW
  go_enter Tryz.func27, Tryz.ntmps27
  go_wp2
  go_loopw [7] (fun i wr => ∃ k : Nat, k ≤ nw ∧ i = .int .i64 k ∧ Hid ((ws.take k).all (fun s => decide (s.size ≤ 60)) = true) ∧ Sep w wr [.blk w.heap.size 41 #[.slice po no co, .slice pt nt ct, .slice pr nr cr, .slice pv nv cv]]) (fun i _ => nw - (intOf i).toNat)
  case atStart => exact ⟨0, Nat.zero_le _, rfl, rfl, S0.out⟩
  case round =>
    clear S0
    obtain ⟨k, hk, rfl, HA, S⟩ := hrel
    by_cases hlt : k < nw
    · have g1 := S.ext.cell (HL.out.cS hlt)
      have d1 : (0:Int) ≤ k := by omega
      have d2 : (k:Int) < nw := by omega
      have hkL : k < ws.length := by rw [← L1.out]; exact hlt
      by_cases h6 : 60 < (nth ws k).size
      · have HF : Hid (farB O T R V L ws = true) := by unfold Hid farB; rw [all_false_at (fun s : ByteArray => decide (s.size ≤ 60)) ws k hkL (by simp; omega)]; rfl
        have e6 : decide ((60:Int) < (nth ws k).size) = true := by simp; omega
        have SH := Lib.hid S; clear S
        clear h6
        go_wp2
        go_ret
        exact ⟨by rw [HF.out]; rfl, SH.out.ext⟩
      · have HF := Lib.hid (all_step (fun s : ByteArray => decide (s.size ≤ 60)) ws k hkL HA.out (by simp; omega))
        have e6 : decide ((60:Int) < (nth ws k).size) = false := by simp; omega
        have SH := Lib.hid S; clear S
        clear h6
        go_wp2
        go_roundw
        case rel => exact ⟨k + 1, by omega, by go_num, HF.out, SH.out⟩
        case measure => simp [intOf]; omega
    · have hkn : ¬ k < nw := hlt
      have HF : Hid (farB O T R V L ws = (bigR O T R V || (decide (30 < O.length) || (bigP L || decide (12 < ws.length))))) := by unfold Hid farB; rw [all_end _ ws k (by rw [← L1.out]; exact hlt) HA.out]; rfl
      have d2 : decide ((k:Int) < nw) = false := by simp; omega
      have d2n : decide (k < nw) = false := by simp; omega
      have az := (S.blk 0 rfl).lt; have a0 := (S.blk 0 rfl).cell 0; have a1 := (S.blk 0 rfl).cell 1; have a2 := (S.blk 0 rfl).cell 2; have a3 := (S.blk 0 rfl).cell 3
      have HLW := L1.out
      have HOO := HLO.out
      clear hlt hkn HA
      have SH := Lib.hid S; clear S
      cases hb1 : bigR O T R V with
      | true =>
        rw [hb1] at HBig
        have HG : Hid (farB O T R V L ws = true) := by unfold Hid; rw [HF.out, hb1]; rfl
        clear HLW HOO hb1 HF
        go_wp2_with (first | (go_at_call 44; have _t := S2; go_must (refine (HPb.out _ S2.out.ext).mono ?_; rintro e w3 ⟨rfl, hb⟩; have S3 := Lib.hid (S2.out.call hb); clear hb)) | (go_at_call 17; go_must (refine (HBig.out _ SH.out.ext).mono ?_; rintro e w2 ⟨rfl, hb⟩; have S2 := Lib.hid (SH.out.call hb); have bz := (S2.out.blk 0 rfl).lt; have b0 := (S2.out.blk 0 rfl).cell 0; have b1 := (S2.out.blk 0 rfl).cell 1; have b2 := (S2.out.blk 0 rfl).cell 2; have b3 := (S2.out.blk 0 rfl).cell 3; clear hb)))
        go_ret
        exact ⟨by rw [HG.out]; rfl, S2.out.ext⟩
      | false =>
        rw [hb1] at HBig
        by_cases h3 : 30 < no
        · have c3 : decide ((30:Int) < no) = true := by simp; omega
          have HG : Hid (farB O T R V L ws = true) := by unfold Hid; rw [HF.out, hb1, decide_eq_true (show 30 < O.length by omega)]; rfl
          clear HLW HOO hb1 h3 HF
          go_wp2_with (first | (go_at_call 44; have _t := S2; go_must (refine (HPb.out _ S2.out.ext).mono ?_; rintro e w3 ⟨rfl, hb⟩; have S3 := Lib.hid (S2.out.call hb); clear hb)) | (go_at_call 17; go_must (refine (HBig.out _ SH.out.ext).mono ?_; rintro e w2 ⟨rfl, hb⟩; have S2 := Lib.hid (SH.out.call hb); have bz := (S2.out.blk 0 rfl).lt; have b0 := (S2.out.blk 0 rfl).cell 0; have b1 := (S2.out.blk 0 rfl).cell 1; have b2 := (S2.out.blk 0 rfl).cell 2; have b3 := (S2.out.blk 0 rfl).cell 3; clear hb)))
          go_ret
          exact ⟨by rw [HG.out]; rfl, S2.out.ext⟩
        · have c3 : decide ((30:Int) < no) = false := by simp; omega
          have c3' := decide_eq_false (show ¬ 30 < O.length by omega)
          cases hb2 : bigP L with
          | true =>
            rw [hb2] at HPb
            have HG : Hid (farB O T R V L ws = true) := by unfold Hid; rw [HF.out, hb1, c3', hb2]; rfl
            clear HLW HOO hb1 h3 c3' hb2 HF
            go_wp2_with (first | (go_at_call 44; have _t := S2; go_must (refine (HPb.out _ S2.out.ext).mono ?_; rintro e w3 ⟨rfl, hb⟩; have S3 := Lib.hid (S2.out.call hb); clear hb)) | (go_at_call 17; go_must (refine (HBig.out _ SH.out.ext).mono ?_; rintro e w2 ⟨rfl, hb⟩; have S2 := Lib.hid (SH.out.call hb); have bz := (S2.out.blk 0 rfl).lt; have b0 := (S2.out.blk 0 rfl).cell 0; have b1 := (S2.out.blk 0 rfl).cell 1; have b2 := (S2.out.blk 0 rfl).cell 2; have b3 := (S2.out.blk 0 rfl).cell 3; clear hb)))
            go_ret
            exact ⟨by rw [HG.out]; rfl, S3.out.ext⟩
          | false =>
            rw [hb2] at HPb
            by_cases h5 : 12 < nw
            · have c5 : decide ((12:Int) < nw) = true := by simp; omega
              have HG : Hid (farB O T R V L ws = true) := by unfold Hid; rw [HF.out, hb1, c3', hb2, decide_eq_true (show 12 < ws.length by omega)]; rfl
              clear HLW HOO hb1 h3 c3' hb2 h5 HF
              go_wp2_with (first | (go_at_call 44; have _t := S2; go_must (refine (HPb.out _ S2.out.ext).mono ?_; rintro e w3 ⟨rfl, hb⟩; have S3 := Lib.hid (S2.out.call hb); clear hb)) | (go_at_call 17; go_must (refine (HBig.out _ SH.out.ext).mono ?_; rintro e w2 ⟨rfl, hb⟩; have S2 := Lib.hid (SH.out.call hb); have bz := (S2.out.blk 0 rfl).lt; have b0 := (S2.out.blk 0 rfl).cell 0; have b1 := (S2.out.blk 0 rfl).cell 1; have b2 := (S2.out.blk 0 rfl).cell 2; have b3 := (S2.out.blk 0 rfl).cell 3; clear hb)))
              go_ret
              exact ⟨by rw [HG.out]; rfl, S3.out.ext⟩
            · have c5 : decide ((12:Int) < nw) = false := by simp; omega
              have HG : Hid (farB O T R V L ws = false) := by unfold Hid; rw [HF.out, hb1, c3', hb2, decide_eq_false (show ¬ 12 < ws.length by omega)]; rfl
              clear HLW HOO hb1 h3 c3' hb2 h5 HF
              go_wp2_with (first | (go_at_call 44; have _t := S2; go_must (refine (HPb.out _ S2.out.ext).mono ?_; rintro e w3 ⟨rfl, hb⟩; have S3 := Lib.hid (S2.out.call hb); clear hb)) | (go_at_call 17; go_must (refine (HBig.out _ SH.out.ext).mono ?_; rintro e w2 ⟨rfl, hb⟩; have S2 := Lib.hid (SH.out.call hb); have bz := (S2.out.blk 0 rfl).lt; have b0 := (S2.out.blk 0 rfl).cell 0; have b1 := (S2.out.blk 0 rfl).cell 1; have b2 := (S2.out.blk 0 rfl).cell 2; have b3 := (S2.out.blk 0 rfl).cell 3; clear hb)))
              go_ret
              exact ⟨by rw [HG.out]; rfl, S3.out.ext⟩
end Go.Proofs.YtkekibnhmfmhmaaGreat
/- The program's searches (chapter 8): the places of the next level, of either side. -/
namespace Go.Proofs.YtkekibnhmfmhmaaGreat
open Go Go.RowKit Go.Maps
theorem zeroBm (w : World) : (zeroValue 4).run Tryz.prog w = .ok (.bool false) w := by kernel_rfl
noncomputable def EBm : Elm Tryz.prog 4 Bool := elmB Tryz.prog 4 Tryz.underlying4 zeroBm
set_option maxRecDepth 100000 in
set_option maxHeartbeats 8000000 in
theorem ahead1 (gs gr n : Nat) (ql : Option Addr) (cl : Nat) (X : List Int) (qf : Option Addr) (m cf : Nat) (F : List Int) (nx : Nat → List Int) (w : World)
    (hB : Blk w gs 201 #[.func (.func 110) #[] #[.pointer (some ⟨gr, 0, none⟩)], .slice ql n cl, .slice qf m cf]) (hX : Rd w 1 ql n (encI X)) (hF : Rd w 1 qf m (encI F)) (hn : n ≤ 200)
    (hFb : ∀ x ∈ F, 0 ≤ x ∧ x < n) (hin : InN nx n)
    (HN : ∀ k, k < n → ∃ q c, Rd w 1 q (nx k).length (encI (nx k)) ∧ ∀ W, Ext w W → Calls Tryz.prog 110 #[.int .i64 k, .pointer (some ⟨gr, 0, none⟩)] W fun e w' => e = .returned (.slice q (nx k).length c) ∧ Ext W w') :
    Calls Tryz.prog 114 #[.pointer (some ⟨gs, 0, none⟩)] w fun e w' => ∃ q c, e = .returned (.slice q (ahF nx X F []).length c) ∧ Sep w w' [.own 3 1 q (ahF nx X F []).length c (encI (ahF nx X F []))] := by
  obtain ⟨i0, hi0, hz0, hz1, hz2⟩ := info_parts infI
  have p1 := hF.ptr
  have p2 := hX.ptr
  have n1 := hF.small
  have L1 := Lib.hid hF.nI
  have L2 := Lib.hid hX.nI
  have HSM : Hid (∀ (G : List Int) (l : List Int), (∀ x ∈ G, 0 ≤ x ∧ x < n) → l.Nodup → (∀ x ∈ l, 0 ≤ x ∧ x < n) → (ahF nx X G l).length ≤ n) := fun G l hG h1 h2 => nodup_small (ahF_nodup h1) fun x hx => by
    rcases ahF_mem.1 hx with h | ⟨v, h3, h4, _⟩
    · exact h2 x h
    · obtain ⟨h5, h6⟩ := hG v h3
      exact hin v.toNat (by omega) x h4
  have HB := Lib.hid hB; clear hB
  have HX := Lib.hid hX; clear hX
  have HF := Lib.hid hF; clear hF
  have HFB := Lib.hid hFb; clear hFb
  have HIN := Lib.hid hin; clear hin
  have HNX := Lib.hid HN
  clear HN
  have hmm := @run_makeMap Tryz.prog
  have S0 := Lib.hid (((Sep.start w).mkmap EBm (k := 3)).nilrow 3 1)
  have b0 := HB.out.cell 0
  have b1 := HB.out.cell 1
  have b2 := HB.out.cell 2
  have bz := HB.out.lt
  go_enter Tryz.func114, Tryz.ntmps114
  go_wp2
  go_loopw [3, 6, 8, 15] (fun l _ _ i wr => ∃ (k : Nat) (L : List Int) (q : Option Addr) (c mm : Nat) (f : Int → Option Bool), k ≤ m ∧ i = .int .i64 k ∧ l = .slice q L.length c ∧ L = ahF nx X (F.take k) [] ∧ mm ≤ L.length ∧ Sep w wr [.own 3 1 q L.length c (encI L), .map Tryz.prog 3 EBm w.heap.size mm f] ∧ ∀ x, f x = some true ↔ x ∈ L) (fun _ _ _ i _ => m - (intOf i).toNat)
  case atStart => exact ⟨0, [], none, 0, 0, _, Nat.zero_le _, rfl, rfl, rfl, Nat.le_refl _, S0.out, fun x => by simp⟩
  case round =>
    clear S0 b0 b1 b2 bz
    obtain ⟨k, L, q, c, mm, f, hk, rfl, rfl, hL, hmm2, S, hf⟩ := hrel
    have b0 := S.ext.cell (HB.out.cell 0)
    have b1 := S.ext.cell (HB.out.cell 1)
    have b2 := S.ext.cell (HB.out.cell 2)
    have bz := Nat.lt_of_lt_of_le HB.out.lt S.ext.size
    by_cases hlt : k < m
    · have hkF : k < F.length := by rw [← L1.out]; exact hlt
      have g1 := S.ext.cell (HF.out.cI hlt)
      obtain ⟨f1, f2⟩ := HFB.out _ (nth_mem hkF)
      have HT := Lib.hid (ahF_take (nx := nx) (X := X) (l := []) hkF)
      rw [← hL] at HT
      have HLB : Hid (∀ j l', l' = ahR X ((nx (nth F k).toNat).take j) L → l'.length ≤ n) := fun j l' hl' => by
        rw [hl', hL]
        refine nodup_small (ahR_nodup (ahF_nodup List.nodup_nil)) fun x hx => ?_
        rcases ahR_mem.1 hx with h | ⟨h, _⟩
        · rcases ahF_mem.1 h with h | ⟨v, h3, h4, _⟩
          · cases h
          · obtain ⟨h5, h6⟩ := HFB.out v (List.mem_of_mem_take h3)
            exact HIN.out v.toNat (by omega) x h4
        · exact HIN.out _ (by omega) x (List.mem_of_mem_take h)
      clear hL
      obtain ⟨a, ha⟩ : ∃ a : Nat, nth F k = (a : Int) := ⟨(nth F k).toNat, by omega⟩
      rw [ha] at g1 f1 f2 HT HLB
      rw [Int.toNat_natCast] at HT HLB
      obtain ⟨qn, cn, RN, CN⟩ := HNX.out a (by omega)
      have HRow := Lib.hid (HIN.out a (by omega))
      have hln := RN.small
      have pn := RN.ptr
      generalize nx a = row at *
      have HRN := Lib.hid RN; clear RN
      have HCN := Lib.hid CN; clear CN
      have HFN := Lib.hid hf; clear hf
      have SH := Lib.hid S; clear S
      have d1 : (0:Int) ≤ k := by omega
      have d2 : (k:Int) < m := by omega
      clear ha f1 f2
      go_wp2_with (go_at_call 110; go_must (refine (HCN.out _ SH.out.ext).mono ?_; rintro e w1 ⟨rfl, hb⟩; have S1 := Lib.hid (SH.out.call hb); clear hb))
      go_loopw [3, 8, 26] (fun l _ i wr => ∃ (j : Nat) (l' : List Int) (q : Option Addr) (c mm : Nat) (f : Int → Option Bool), j ≤ row.length ∧ i = .int .i64 j ∧ l = .slice q l'.length c ∧ l' = ahR X (row.take j) L ∧ mm ≤ l'.length ∧ Sep w wr [.own 3 1 q l'.length c (encI l'), .map Tryz.prog 3 EBm w.heap.size mm f] ∧ ∀ x, f x = some true ↔ x ∈ l') (fun _ _ i _ => row.length - (intOf i).toNat)
      case atStart => exact ⟨0, L, q, c, mm, f, Nat.zero_le _, rfl, rfl, rfl, hmm2, S1.out, HFN.out⟩
      case round =>
        clear SH S1 HFN HCN b0 b1 b2 bz g1 hmm2
        obtain ⟨j, l', q, c, mm, f, hj, rfl, rfl, hl', hmm2, S, hf⟩ := hrel
        have b0 := S.ext.cell (HB.out.cell 0)
        have b1 := S.ext.cell (HB.out.cell 1)
        have b2 := S.ext.cell (HB.out.cell 2)
        have bz := Nat.lt_of_lt_of_le HB.out.lt S.ext.size
        by_cases hlj : j < row.length
        · have g1 := S.ext.cell (HRN.out.cI hlj)
          obtain ⟨f1, f2⟩ := HRow.out _ (nth_mem hlj)
          have HT2 := Lib.hid (ahR_take (X := X) (l := L) hlj)
          rw [← hl'] at HT2
          have hlen := HLB.out j l' hl'
          clear hl'
          obtain ⟨b, hb⟩ : ∃ b : Nat, nth row j = (b : Int) := ⟨(nth row j).toNat, by omega⟩
          rw [hb] at g1 f1 f2 HT2
          have g2 := S.ext.cell (HX.out.cI (k := b) (by omega))
          have HI : Hid (I64 (b : Int)) := I64.nat (by omega)
          have hlk := (S.map 1 rfl).lookup Tryz.underlying3 Tryz.underlying114 HI.out
          obtain ⟨u, hu⟩ : ∃ u, u = (f (b : Int)).getD EBm.z := ⟨_, rfl⟩
          rw [← hu] at hlk
          have hlk2 : (Instr.lookup 114 (.map (some w.heap.size)) (.int .i64 (b : Int)) false).run Tryz.prog wr = .ok (.bool u) wr := hlk
          have hui : u = true ↔ (b : Int) ∈ l' := by
            rw [← hf, hu]
            cases hfb : f (b : Int) with
            | none => simp; decide
            | some t => simp
          clear hlk hb hu
          have HFN := Lib.hid hf; clear hf
          have SH := Lib.hid S; clear S
          have d3 : (0:Int) ≤ j := by omega
          have d4 : (j:Int) < row.length := by omega
          unfold ah1 at HT2
          rw [Int.toNat_natCast] at HT2
          generalize nth X b = lv at *
          by_cases hlv : lv < 0
          · have d5 : decide (lv < 0) = true := by simpa using hlv
            cases u with
            | true =>
              have hmem := hui.1 rfl
              rw [if_neg (fun h => h.2 hmem)] at HT2
              clear hui hmem
              go_wp2
              go_roundw
              case rel => exact ⟨j + 1, l', q, c, mm, f, by omega, by go_num, rfl, HT2.out.symm, hmm2, SH.out, HFN.out⟩
              case measure => simp [intOf]; omega
            | false =>
              have hmem : (b : Int) ∉ l' := fun h => by have := hui.2 h; cases this
              rw [if_pos ⟨hlv, hmem⟩] at HT2
              clear hui hmem
              go_wp2_with (first
                | (at_mapUpdate; go_must (refine wpList_update_sep rfl _ _ _ _ rfl Tryz.underlying3 Tryz.underlying114 rfl SH.out 1 rfl (by omega) (b : Int) true rfl rfl HI.out ?_; intro w1 S1 hg; have S2 := Lib.hid S1; clear S1 hg))
                | (at_builtin; go_must (refine wpList_append_sep rfl _ _ _ rfl 3 i0 _ 1 8 Tryz.underlying39 hi0 hz0 hz1 hz2 rfl (by omega) (S2.out.junk _) 0 q l'.length c _ rfl rfl _ 1 1 _ rfl (Rd.oneI _ _ _) (one_encI _) (by omega) (by omega) ?_; intro q' c' w3 S' hsz; have S3 := Lib.hid S'; clear S' hsz)))
              go_roundw
              case rel => exact ⟨j + 1, l' ++ [(b : Int)], q', c', mm + 1, _, by omega, by go_num, by rw [List.length_append]; rfl, HT2.out.symm, by rw [List.length_append]; simp; omega, by rw [List.length_append, encI_append]; exact S3.out, fun x => by
                rw [List.mem_append, List.mem_singleton, ← HFN.out x]
                unfold upF
                by_cases e : x = (b : Int) <;> simp [e]⟩
              case measure => simp [intOf]; omega
          · have d5 : decide (lv < 0) = false := by simpa using hlv
            rw [if_neg (fun h => hlv h.1)] at HT2
            clear hui hlk2
            go_wp2
            go_roundw
            case rel => exact ⟨j + 1, l', q, c, mm, f, by omega, by go_num, rfl, HT2.out.symm, hmm2, SH.out, HFN.out⟩
            case measure => simp [intOf]; omega
        · obtain rfl : j = row.length := by omega
          rw [List.take_length, ← HT.out] at hl'
          have HL' := Lib.hid hl'; clear hl'
          have HFN := Lib.hid hf; clear hf
          have SH := Lib.hid S; clear S
          go_wp2
          go_roundw
          case rel => exact ⟨k + 1, l', q, c, mm, f, by omega, by go_num, rfl, HL'.out, hmm2, SH.out, HFN.out⟩
          case measure => simp [intOf]; omega
    · obtain rfl : k = m := by omega
      rw [List.take_of_length_le (by rw [← L1.out]; omega)] at hL
      subst hL
      have SH := Lib.hid S; clear S
      clear hf
      go_wp2
      go_ret
      exact ⟨q, c, rfl, SH.out.pick [0] (by decide) rfl⟩
set_option maxRecDepth 100000 in
set_option maxHeartbeats 8000000 in
theorem ahead2 (gs gr n : Nat) (ql : Option Addr) (cl : Nat) (X : List Int) (qf : Option Addr) (m cf : Nat) (F : List Int) (nx : Nat → List Int) (w : World)
    (hB : Blk w gs 201 #[.func (.func 111) #[] #[.pointer (some ⟨gr, 0, none⟩)], .slice ql n cl, .slice qf m cf]) (hX : Rd w 1 ql n (encI X)) (hF : Rd w 1 qf m (encI F)) (hn : n ≤ 200)
    (hFb : ∀ x ∈ F, 0 ≤ x ∧ x < n) (hin : InN nx n)
    (HN : ∀ k, k < n → ∃ q c, Rd w 1 q (nx k).length (encI (nx k)) ∧ ∀ W, Ext w W → Calls Tryz.prog 111 #[.int .i64 k, .pointer (some ⟨gr, 0, none⟩)] W fun e w' => e = .returned (.slice q (nx k).length c) ∧ Ext W w') :
    Calls Tryz.prog 114 #[.pointer (some ⟨gs, 0, none⟩)] w fun e w' => ∃ q c, e = .returned (.slice q (ahF nx X F []).length c) ∧ Sep w w' [.own 3 1 q (ahF nx X F []).length c (encI (ahF nx X F []))] := by
  obtain ⟨i0, hi0, hz0, hz1, hz2⟩ := info_parts infI
  have p1 := hF.ptr
  have p2 := hX.ptr
  have n1 := hF.small
  have L1 := Lib.hid hF.nI
  have L2 := Lib.hid hX.nI
  have HSM : Hid (∀ (G : List Int) (l : List Int), (∀ x ∈ G, 0 ≤ x ∧ x < n) → l.Nodup → (∀ x ∈ l, 0 ≤ x ∧ x < n) → (ahF nx X G l).length ≤ n) := fun G l hG h1 h2 => nodup_small (ahF_nodup h1) fun x hx => by
    rcases ahF_mem.1 hx with h | ⟨v, h3, h4, _⟩
    · exact h2 x h
    · obtain ⟨h5, h6⟩ := hG v h3
      exact hin v.toNat (by omega) x h4
  have HB := Lib.hid hB; clear hB
  have HX := Lib.hid hX; clear hX
  have HF := Lib.hid hF; clear hF
  have HFB := Lib.hid hFb; clear hFb
  have HIN := Lib.hid hin; clear hin
  have HNX := Lib.hid HN
  clear HN
  have hmm := @run_makeMap Tryz.prog
  have S0 := Lib.hid (((Sep.start w).mkmap EBm (k := 3)).nilrow 3 1)
  have b0 := HB.out.cell 0
  have b1 := HB.out.cell 1
  have b2 := HB.out.cell 2
  have bz := HB.out.lt
  go_enter Tryz.func114, Tryz.ntmps114
  go_wp2
  go_loopw [3, 6, 8, 15] (fun l _ _ i wr => ∃ (k : Nat) (L : List Int) (q : Option Addr) (c mm : Nat) (f : Int → Option Bool), k ≤ m ∧ i = .int .i64 k ∧ l = .slice q L.length c ∧ L = ahF nx X (F.take k) [] ∧ mm ≤ L.length ∧ Sep w wr [.own 3 1 q L.length c (encI L), .map Tryz.prog 3 EBm w.heap.size mm f] ∧ ∀ x, f x = some true ↔ x ∈ L) (fun _ _ _ i _ => m - (intOf i).toNat)
  case atStart => exact ⟨0, [], none, 0, 0, _, Nat.zero_le _, rfl, rfl, rfl, Nat.le_refl _, S0.out, fun x => by simp⟩
  case round =>
    clear S0 b0 b1 b2 bz
    obtain ⟨k, L, q, c, mm, f, hk, rfl, rfl, hL, hmm2, S, hf⟩ := hrel
    have b0 := S.ext.cell (HB.out.cell 0)
    have b1 := S.ext.cell (HB.out.cell 1)
    have b2 := S.ext.cell (HB.out.cell 2)
    have bz := Nat.lt_of_lt_of_le HB.out.lt S.ext.size
    by_cases hlt : k < m
    · have hkF : k < F.length := by rw [← L1.out]; exact hlt
      have g1 := S.ext.cell (HF.out.cI hlt)
      obtain ⟨f1, f2⟩ := HFB.out _ (nth_mem hkF)
      have HT := Lib.hid (ahF_take (nx := nx) (X := X) (l := []) hkF)
      rw [← hL] at HT
      have HLB : Hid (∀ j l', l' = ahR X ((nx (nth F k).toNat).take j) L → l'.length ≤ n) := fun j l' hl' => by
        rw [hl', hL]
        refine nodup_small (ahR_nodup (ahF_nodup List.nodup_nil)) fun x hx => ?_
        rcases ahR_mem.1 hx with h | ⟨h, _⟩
        · rcases ahF_mem.1 h with h | ⟨v, h3, h4, _⟩
          · cases h
          · obtain ⟨h5, h6⟩ := HFB.out v (List.mem_of_mem_take h3)
            exact HIN.out v.toNat (by omega) x h4
        · exact HIN.out _ (by omega) x (List.mem_of_mem_take h)
      clear hL
      obtain ⟨a, ha⟩ : ∃ a : Nat, nth F k = (a : Int) := ⟨(nth F k).toNat, by omega⟩
      rw [ha] at g1 f1 f2 HT HLB
      rw [Int.toNat_natCast] at HT HLB
      obtain ⟨qn, cn, RN, CN⟩ := HNX.out a (by omega)
      have HRow := Lib.hid (HIN.out a (by omega))
      have hln := RN.small
      have pn := RN.ptr
      generalize nx a = row at *
      have HRN := Lib.hid RN; clear RN
      have HCN := Lib.hid CN; clear CN
      have HFN := Lib.hid hf; clear hf
      have SH := Lib.hid S; clear S
      have d1 : (0:Int) ≤ k := by omega
      have d2 : (k:Int) < m := by omega
      clear ha f1 f2
      go_wp2_with (go_at_call 111; go_must (refine (HCN.out _ SH.out.ext).mono ?_; rintro e w1 ⟨rfl, hb⟩; have S1 := Lib.hid (SH.out.call hb); clear hb))
      go_loopw [3, 8, 26] (fun l _ i wr => ∃ (j : Nat) (l' : List Int) (q : Option Addr) (c mm : Nat) (f : Int → Option Bool), j ≤ row.length ∧ i = .int .i64 j ∧ l = .slice q l'.length c ∧ l' = ahR X (row.take j) L ∧ mm ≤ l'.length ∧ Sep w wr [.own 3 1 q l'.length c (encI l'), .map Tryz.prog 3 EBm w.heap.size mm f] ∧ ∀ x, f x = some true ↔ x ∈ l') (fun _ _ i _ => row.length - (intOf i).toNat)
      case atStart => exact ⟨0, L, q, c, mm, f, Nat.zero_le _, rfl, rfl, rfl, hmm2, S1.out, HFN.out⟩
      case round =>
        clear SH S1 HFN HCN b0 b1 b2 bz g1 hmm2
        obtain ⟨j, l', q, c, mm, f, hj, rfl, rfl, hl', hmm2, S, hf⟩ := hrel
        have b0 := S.ext.cell (HB.out.cell 0)
        have b1 := S.ext.cell (HB.out.cell 1)
        have b2 := S.ext.cell (HB.out.cell 2)
        have bz := Nat.lt_of_lt_of_le HB.out.lt S.ext.size
        by_cases hlj : j < row.length
        · have g1 := S.ext.cell (HRN.out.cI hlj)
          obtain ⟨f1, f2⟩ := HRow.out _ (nth_mem hlj)
          have HT2 := Lib.hid (ahR_take (X := X) (l := L) hlj)
          rw [← hl'] at HT2
          have hlen := HLB.out j l' hl'
          clear hl'
          obtain ⟨b, hb⟩ : ∃ b : Nat, nth row j = (b : Int) := ⟨(nth row j).toNat, by omega⟩
          rw [hb] at g1 f1 f2 HT2
          have g2 := S.ext.cell (HX.out.cI (k := b) (by omega))
          have HI : Hid (I64 (b : Int)) := I64.nat (by omega)
          have hlk := (S.map 1 rfl).lookup Tryz.underlying3 Tryz.underlying114 HI.out
          obtain ⟨u, hu⟩ : ∃ u, u = (f (b : Int)).getD EBm.z := ⟨_, rfl⟩
          rw [← hu] at hlk
          have hlk2 : (Instr.lookup 114 (.map (some w.heap.size)) (.int .i64 (b : Int)) false).run Tryz.prog wr = .ok (.bool u) wr := hlk
          have hui : u = true ↔ (b : Int) ∈ l' := by
            rw [← hf, hu]
            cases hfb : f (b : Int) with
            | none => simp; decide
            | some t => simp
          clear hlk hb hu
          have HFN := Lib.hid hf; clear hf
          have SH := Lib.hid S; clear S
          have d3 : (0:Int) ≤ j := by omega
          have d4 : (j:Int) < row.length := by omega
          unfold ah1 at HT2
          rw [Int.toNat_natCast] at HT2
          generalize nth X b = lv at *
          by_cases hlv : lv < 0
          · have d5 : decide (lv < 0) = true := by simpa using hlv
            cases u with
            | true =>
              have hmem := hui.1 rfl
              rw [if_neg (fun h => h.2 hmem)] at HT2
              clear hui hmem
              go_wp2
              go_roundw
              case rel => exact ⟨j + 1, l', q, c, mm, f, by omega, by go_num, rfl, HT2.out.symm, hmm2, SH.out, HFN.out⟩
              case measure => simp [intOf]; omega
            | false =>
              have hmem : (b : Int) ∉ l' := fun h => by have := hui.2 h; cases this
              rw [if_pos ⟨hlv, hmem⟩] at HT2
              clear hui hmem
              go_wp2_with (first
                | (at_mapUpdate; go_must (refine wpList_update_sep rfl _ _ _ _ rfl Tryz.underlying3 Tryz.underlying114 rfl SH.out 1 rfl (by omega) (b : Int) true rfl rfl HI.out ?_; intro w1 S1 hg; have S2 := Lib.hid S1; clear S1 hg))
                | (at_builtin; go_must (refine wpList_append_sep rfl _ _ _ rfl 3 i0 _ 1 8 Tryz.underlying39 hi0 hz0 hz1 hz2 rfl (by omega) (S2.out.junk _) 0 q l'.length c _ rfl rfl _ 1 1 _ rfl (Rd.oneI _ _ _) (one_encI _) (by omega) (by omega) ?_; intro q' c' w3 S' hsz; have S3 := Lib.hid S'; clear S' hsz)))
              go_roundw
              case rel => exact ⟨j + 1, l' ++ [(b : Int)], q', c', mm + 1, _, by omega, by go_num, by rw [List.length_append]; rfl, HT2.out.symm, by rw [List.length_append]; simp; omega, by rw [List.length_append, encI_append]; exact S3.out, fun x => by
                rw [List.mem_append, List.mem_singleton, ← HFN.out x]
                unfold upF
                by_cases e : x = (b : Int) <;> simp [e]⟩
              case measure => simp [intOf]; omega
          · have d5 : decide (lv < 0) = false := by simpa using hlv
            rw [if_neg (fun h => hlv h.1)] at HT2
            clear hui hlk2
            go_wp2
            go_roundw
            case rel => exact ⟨j + 1, l', q, c, mm, f, by omega, by go_num, rfl, HT2.out.symm, hmm2, SH.out, HFN.out⟩
            case measure => simp [intOf]; omega
        · obtain rfl : j = row.length := by omega
          rw [List.take_length, ← HT.out] at hl'
          have HL' := Lib.hid hl'; clear hl'
          have HFN := Lib.hid hf; clear hf
          have SH := Lib.hid S; clear S
          go_wp2
          go_roundw
          case rel => exact ⟨k + 1, l', q, c, mm, f, by omega, by go_num, rfl, HL'.out, hmm2, SH.out, HFN.out⟩
          case measure => simp [intOf]; omega
    · obtain rfl : k = m := by omega
      rw [List.take_of_length_le (by rw [← L1.out]; omega)] at hL
      subst hL
      have SH := Lib.hid S; clear S
      clear hf
      go_wp2
      go_ret
      exact ⟨q, c, rfl, SH.out.pick [0] (by decide) rfl⟩
end Go.Proofs.YtkekibnhmfmhmaaGreat
/- The program's searches (chapter 8): a side takes the next level's places. -/
namespace Go.Proofs.YtkekibnhmfmhmaaGreat
open Go Go.RowKit
theorem set_ne {α : Type} {Γ : List α} {i j : Nat} {p q : α} (h : Γ[i]? = some p) (hne : i ≠ j) : (Γ.set j q)[i]? = some p := by
  rw [List.getElem?_set_ne (fun e => hne e.symm)]; exact h
theorem set_eq {α : Type} {Γ : List α} {j : Nat} {p q : α} (h : Γ[j]? = some p) : (Γ.set j q)[j]? = some q := List.getElem?_set_self (List.getElem?_eq_some_iff.1 h).1
set_option maxRecDepth 100000 in
set_option maxHeartbeats 4000000 in
theorem takeG {w0 w : World} {Γ : List Pc} (i j : Nat) (gs fid gr n : Nat) (ql : Option Addr) (cl : Nat) (X : List Int) (qf : Option Addr) (mf cf : Nat) (F : List Int) (qm : Option Addr) (m cm : Nat) (L : List Int) (S : Sep w0 w Γ)
    (hij : i ≠ j) (hi : Γ[i]? = some (.blk gs 201 #[.func (.func fid) #[] #[.pointer (some ⟨gr, 0, none⟩)], .slice ql n cl, .slice qf mf cf])) (hj : Γ[j]? = some (.own 3 1 ql n cl (encI X))) (hf : ∀ W Y, Sep w0 W (Γ.set j (.own 3 1 ql n cl Y)) → Rd W 1 qf mf (encI F)) (hp : ∀ W Y, Sep w0 W (Γ.set j (.own 3 1 ql n cl Y)) → Rd W 1 qm m (encI L))
    (hn : n ≤ 200) (hmf : 0 < mf) (hmf2 : mf ≤ 200) (hm : m ≤ 200) (hF : 0 ≤ nth F 0 ∧ nth F 0 < n) (hL : ∀ x ∈ L, 0 ≤ x ∧ x < n) (hne : nth F 0 ∉ L) (c : Int) (hc : nth X (nth F 0).toNat = c) (hc0 : 0 ≤ c ∧ c ≤ 1000) :
    Calls Tryz.prog 115 #[.pointer (some ⟨gs, 0, none⟩), .slice qm m cm] w fun e w' => (∃ v, e = .returned v) ∧ Sep w0 w' ((Γ.set j (.own 3 1 ql n cl (encI (tkR (c + 1) L X)))).set i (.blk gs 201 #[.func (.func fid) #[] #[.pointer (some ⟨gr, 0, none⟩)], .slice ql n cl, .slice qm m cm])) := by
  have LX : X.length = n := by have := (S.rd j hj (by omega)).nI; omega
  have e0 : Γ.set j (.own 3 1 ql n cl (encI X)) = Γ := by
    apply List.ext_getElem?
    intro t
    by_cases e : j = t
    · subst e; rw [set_eq hj, hj]
    · rw [List.getElem?_set_ne e]
  have LL : L.length = m := by have := (hp w (encI X) (by rw [e0]; exact S)).nI; omega
  have LX' := Lib.hid LX
  have LL' := Lib.hid LL
  have HL := Lib.hid hL
  obtain ⟨a, ha⟩ : ∃ a : Nat, nth F 0 = (a : Int) := ⟨(nth F 0).toNat, by omega⟩
  have HA : Hid (∀ k, nth (tkR (c + 1) (L.take k) X) a = c) := fun k => by
    rw [tkR_nth (fun x hx => by have := hL x (List.mem_of_mem_take hx); rw [LX]; omega), if_neg (fun h => hne (by rw [ha]; exact List.mem_of_mem_take h))]
    rw [ha, Int.toNat_natCast] at hc; exact hc
  have HAF := Lib.hid ha
  rw [ha] at hF
  clear hL hne hc LX LL ha
  go_enter Tryz.func115, Tryz.ntmps115
  go_wp2
  go_loopw [5, 8] (fun _ i wr => ∃ k : Nat, k ≤ m ∧ i = .int .i64 k ∧ Sep w0 wr (Γ.set j (.own 3 1 ql n cl (encI (tkR (c + 1) (L.take k) X))))) (fun _ i _ => m - (intOf i).toNat)
  case atStart => exact ⟨0, Nat.zero_le _, rfl, by show Sep w0 w (Γ.set j (.own 3 1 ql n cl (encI X))); rw [e0]; exact S⟩
  case round =>
    obtain ⟨k, hk, rfl, S1⟩ := hrel
    have az := (S1.blk i (set_ne hi hij)).lt; have a0 := (S1.blk i (set_ne hi hij)).cell 0; have a1 := (S1.blk i (set_ne hi hij)).cell 1; have a2 := (S1.blk i (set_ne hi hij)).cell 2
    have po := (S1.rd j (set_eq hj) (by omega)).ptr
    have pl := (hp _ _ S1).ptr
    have pf := (hf _ _ S1).ptr
    by_cases hlt : k < m
    · have hkL : k < L.length := by rw [LL'.out]; exact hlt
      have g1 := (hp _ _ S1).cI hlt
      have g2 := (hf _ _ S1).cI hmf
      have g3 := (S1.rd j (set_eq hj) (by omega)).cI (k := a) (by omega)
      rw [HA.out] at g3
      rw [HAF.out] at g2
      obtain ⟨f1, f2⟩ := HL.out _ (nth_mem hkL)
      obtain ⟨b, hb⟩ : ∃ b : Nat, nth L k = (b : Int) := ⟨(nth L k).toNat, by omega⟩
      have HT := Lib.hid (tkR_take (c := c + 1) (X := X) hkL)
      rw [hb] at g1 f1 f2 HT
      rw [Int.toNat_natCast] at HT
      clear hb
      have d1 : (0:Int) ≤ k := by omega
      have d2 : (k:Int) < m := by omega
      have d3 : (0:Int) < mf := by omega
      have d4 : (a:Int) < n := by omega
      have d5 : (0:Int) ≤ a := by omega
      have SH := Lib.hid S1; clear S1
      go_wp2
      have x1 := fun x : ExtOf wr => x.ext.cell a1
      have x2 := fun x : ExtOf wr => x.ext.cell a2
      have x4 := fun x : ExtOf wr => x.ext.cell g2
      have x5 := fun x : ExtOf wr => x.ext.cell g3
      refine wp_region_mix [true, true, true, true, true, true, true, true, true, true, true, true, true, true, true, true, true, true, true] (fun _ _ _ => True) (by kernel_rfl) (by kernel_rfl) (by kernel_rfl) (fun _ _ _ _ _ h => h) ?_
      simp only [nfM]
      repeat (go_big_quiet_step ((fail)))
      refine wpQuiet_nil ⟨trivial, fun vs W1 hE _ => ?_⟩
      have S2 := SH.out.call hE
      have po2 := (S2.rd j (set_eq hj) (by omega)).ptr
      have fz2 := own_frozen (S2.own j (set_eq hj)) (by omega) b
      have k1 := own_cell (S2.own j (set_eq hj)) (k := b) (by omega)
      have S3 := Lib.hid (S2.setRow j (set_eq hj) b (by omega) (.int .i64 (c + 1)))
      clear S2 x1 x2 x4 x5 g1 g2 g3 a0 a1 a2 az
      simp only [putM, List.length_cons, List.length_nil, Nat.zero_add, Nat.reduceAdd, List.drop_succ_cons, List.drop_zero]
      go_wp2
      go_roundw
      case rel => exact ⟨k + 1, by omega, by go_num, by rw [HT.out, ← encI_set]; have := S3.out; rw [List.set_set] at this; exact this⟩
      case measure => simp [intOf]; omega
    · obtain rfl : k = m := by omega
      rw [List.take_of_length_le (by rw [LL'.out]; exact Nat.le_refl _)] at S1
      have fz0 := (S1.blk i (set_ne hi hij)).frozen 2
      have SH := Lib.hid S1; clear S1
      go_wp2
      go_end0
      exact ⟨⟨_, rfl⟩, SH.out.set i (set_ne hi hij) 2 (.slice qm k cm)⟩
end Go.Proofs.YtkekibnhmfmhmaaGreat
/- The program's searches (chapter 8): the shortest walk over places that both sides have. -/
namespace Go.Proofs.YtkekibnhmfmhmaaGreat
open Go Go.RowKit
set_option maxRecDepth 100000 in
set_option maxHeartbeats 4000000 in
theorem bestG (fa fb gr ga gb n : Nat) (qa : Option Addr) (ca : Nat) (X : List Int) (pa : Option Addr) (ma da : Nat) (qb : Option Addr) (cb : Nat) (Y : List Int) (pb : Option Addr) (mb db : Nat) (w : World)
    (hA : Blk w ga 201 #[.func (.func fa) #[] #[.pointer (some ⟨gr, 0, none⟩)], .slice qa n ca, .slice pa ma da]) (hB : Blk w gb 201 #[.func (.func fb) #[] #[.pointer (some ⟨gr, 0, none⟩)], .slice qb n cb, .slice pb mb db]) (hX : Rd w 1 qa n (encI X)) (hY : Rd w 1 qb n (encI Y)) (hn : n ≤ 200)
    (bX : ∀ v, v < n → nth X v ≤ 1000) (bY : ∀ v, v < n → nth Y v ≤ 1000) :
    Calls Tryz.prog 113 #[.agg #[.pointer (some ⟨ga, 0, none⟩), .pointer (some ⟨gb, 0, none⟩)]] w fun e w' => e = .returned (.tuple #[.int .i64 (bestR X Y n).1, .bool (bestR X Y n).2]) ∧ Ext w w' := by
  have p1 := hX.ptr
  have p2 := hY.ptr
  have S0 := Lib.hid ((Sep.start w).al #[.pointer (some ⟨ga, 0, none⟩), .pointer (some ⟨gb, 0, none⟩)] 120 w.heap.size rfl)
  have HA := Lib.hid hA; clear hA
  have HB := Lib.hid hB; clear hB
  have HX := Lib.hid hX; clear hX
  have HY := Lib.hid hY; clear hY
  have BX := Lib.hid bX; clear bX
  have BY := Lib.hid bY; clear bY
  have az := (HA.out.ext S0.out.ext).lt; have a0 := (HA.out.ext S0.out.ext).cell 0; have a1 := (HA.out.ext S0.out.ext).cell 1; have a2 := (HA.out.ext S0.out.ext).cell 2
  have c0 := (S0.out.blk 0 rfl).cell 0
  have c1 := (S0.out.blk 0 rfl).cell 1
  have cz := (S0.out.blk 0 rfl).lt
  go_enter Tryz.func113, Tryz.ntmps113
  go_wp2
  go_loopw [4, 5, 6, 7, 8, 15] (fun m o _ _ _ i wr => ∃ k : Nat, k ≤ n ∧ i = .int .i64 k ∧ m = .int .i64 (bestR X Y k).1 ∧ o = .bool (bestR X Y k).2 ∧ Sep w wr [.blk w.heap.size 120 #[.pointer (some ⟨ga, 0, none⟩), .pointer (some ⟨gb, 0, none⟩)]]) (fun _ _ _ _ _ i _ => n - (intOf i).toNat)
  case atStart => exact ⟨0, Nat.zero_le _, rfl, rfl, rfl, S0.out⟩
  case round =>
    clear S0 a0 a1 a2 az c0 c1 cz
    obtain ⟨k, hk, rfl, rfl, rfl, S⟩ := hrel
    by_cases hlt : k < n
    · have az := (HA.out.ext S.ext).lt; have a0 := (HA.out.ext S.ext).cell 0; have a1 := (HA.out.ext S.ext).cell 1; have a2 := (HA.out.ext S.ext).cell 2
      have bz := (HB.out.ext S.ext).lt; have b0 := (HB.out.ext S.ext).cell 0; have b1 := (HB.out.ext S.ext).cell 1; have b2 := (HB.out.ext S.ext).cell 2
      have c0 := (S.blk 0 rfl).cell 0
      have c1 := (S.blk 0 rfl).cell 1
      have cz := (S.blk 0 rfl).lt
      have g1 := S.ext.cell (HX.out.cI hlt)
      have g2 := S.ext.cell (HY.out.cI hlt)
      have HS := Lib.hid (bestR_succ X Y k)
      have b1 := BX.out k hlt
      have b2 := BY.out k hlt
      unfold best1 at HS
      generalize bestR X Y k = s at *
      obtain ⟨m, o⟩ := s
      simp only at HS ⊢
      generalize nth X k = x at *
      generalize nth Y k = y at *
      have d1 : (0:Int) ≤ k := by omega
      have d2 : (k:Int) < n := by omega
      have SH := Lib.hid S; clear S
      by_cases hx : 0 ≤ x
      · have e1 : decide (0 ≤ x) = true := by simpa using hx
        by_cases hy : 0 ≤ y
        · have e2 : decide (0 ≤ y) = true := by simpa using hy
          cases o with
          | false =>
            rw [if_pos ⟨hx, hy, .inl rfl⟩] at HS
            go_wp2
            go_roundw
            case rel => exact ⟨k + 1, by omega, by go_num, by rw [HS.out], by rw [HS.out], SH.out⟩
            case measure => simp [intOf]; omega
          | true =>
            by_cases hm : x + y < m
            · have e3 : decide (x + y < m) = true := by simpa using hm
              rw [if_pos ⟨hx, hy, .inr hm⟩] at HS
              go_wp2
              go_roundw
              case rel => exact ⟨k + 1, by omega, by go_num, by rw [HS.out], by rw [HS.out], SH.out⟩
              case measure => simp [intOf]; omega
            · have e3 : decide (x + y < m) = false := by simpa using hm
              rw [if_neg (by rintro ⟨_, _, h | h⟩; cases h; exact hm h)] at HS
              go_wp2
              go_roundw
              case rel => exact ⟨k + 1, by omega, by go_num, by rw [HS.out], by rw [HS.out], SH.out⟩
              case measure => simp [intOf]; omega
        · have e2 : decide (0 ≤ y) = false := by simpa using hy
          rw [if_neg (fun h => hy h.2.1)] at HS
          go_wp2
          go_roundw
          case rel => exact ⟨k + 1, by omega, by go_num, by rw [HS.out], by rw [HS.out], SH.out⟩
          case measure => simp [intOf]; omega
      · have e1 : decide (0 ≤ x) = false := by simpa using hx
        rw [if_neg (fun h => hx h.1)] at HS
        go_wp2
        go_roundw
        case rel => exact ⟨k + 1, by omega, by go_num, by rw [HS.out], by rw [HS.out], SH.out⟩
        case measure => simp [intOf]; omega
    · obtain rfl : k = n := by omega
      have SH := Lib.hid S; clear S
      go_wp2
      go_ret2
      exact ⟨rfl, SH.out.ext⟩
end Go.Proofs.YtkekibnhmfmhmaaGreat
/- The program's searches (chapter 8): both sides go on till they meet, or one can't. -/
namespace Go.Proofs.YtkekibnhmfmhmaaGreat
open Go Go.RowKit
theorem Sep.freshMany {w0 w w' : World} {Γ : List Pc} {e : TypeId} {size : Nat} {rows : List (Hd × List Value)} (S : Sep w0 w Γ) (h : Ext w w') (ho : ∀ r ∈ rows, w'.ownsRow w.heap.size e size (.slice r.1.p r.1.n r.1.c) r.1.n r.2) : Sep w0 w' (.many e size rows :: Γ) :=
  S.comp (Δ := [.many e size rows]) ⟨h, fun p hp => by rw [List.mem_singleton] at hp; subst hp; exact fun r hr => own_base (ho r hr) (Nat.zero_le _), fun p hp k hk => by
    rw [List.mem_singleton] at hp; subst hp
    obtain ⟨r, hr, hk⟩ := hk
    exact (own_lt (ho r hr) hk).1, List.pairwise_singleton _ _⟩
theorem Sep.rdMany {w0 w : World} {Γ : List Pc} (S : Sep w0 w Γ) (j : Nat) {e : TypeId} {size : Nat} {rows : List (Hd × List Value)} (hj : Γ[j]? = some (.many e size rows)) {r : Hd × List Value} (hr : r ∈ rows) (hs : r.1.n ≤ 9223372036854775807) : Rd w size r.1.p r.1.n r.2 := Rd.of_own (S.manyAt j hj r hr) hs
section
variable {nx nb : Nat → List Int} {n s t : Nat} (h : Rev nx nb n) (hs : s < n) (ht : t < n)
include h hs ht in
theorem go_has {k : Nat} (h0 : 0 ≤ lev nx n s t) (hm : meetB n (lev nx n s) (lev nb n t) k = false) : hasL n (lev nx n s) ((k:Int) + 1) = true ∧ hasL n (lev nb n t) ((k:Int) + 1) = true ∧ 2 * (k:Int) < lev nx n s t := by
  have h2 : 2 * (k:Int) < lev nx n s t := by
    have := mt (meet_lev h hs ht (k := k)).2 (by rw [hm]; simp); omega
  refine ⟨?_, ?_, h2⟩
  · obtain ⟨v, hv, g1, _⟩ := lev_mid h hs ht (j := k + 1) h0 (by omega)
    exact hasL_iff.2 ⟨v, hv, by omega⟩
  · obtain ⟨v, hv, _, g1⟩ := lev_mid h hs ht (j := (lev nx n s t).toNat - (k + 1)) h0 (by omega)
    exact hasL_iff.2 ⟨v, hv, by omega⟩
end
def RunQ (b : Nat) (x y : List Int) (i : Nat) (v : Value) (W : World) : Prop :=
  match i with
  | 2 => ∃ q c, v = .slice q x.length c ∧ W.ownsRow b 3 1 (.slice q x.length c) x.length (encI x)
  | 5 => ∃ q c, v = .slice q y.length c ∧ W.ownsRow b 3 1 (.slice q y.length c) y.length (encI y)
  | _ => True
theorem RunQ_mono {b : Nat} {x y : List Int} : ∀ i v W W', Ext W W' → RunQ b x y i v W → RunQ b x y i v W' := by
  intro i v W W' he h
  unfold RunQ at *
  split at h <;> first | trivial | (obtain ⟨q, c, h1, h2⟩ := h; exact ⟨q, c, h1, he.own h2⟩)
set_option maxRecDepth 100000 in
set_option maxHeartbeats 8000000 in
theorem runG (po : Option Addr) (no co : Nat) (O : List Int) (pt : Option Addr) (nt ct : Nat) (T : List Int) (pr : Option Addr) (nr cr : Nat) (R : List Int) (pv : Option Addr) (nv cv : Nat) (V : List Int) (gr ga gb n s t : Nat) (qa qb qfa0 qfb0 : Option Addr) (w0 w : World) (hO : Rd w0 1 po no (encI O)) (hT : Rd w0 1 pt nt (encI T)) (hR : Rd w0 1 pr nr (encI R)) (hV : Rd w0 1 pv nv (encI V)) (hct : nt ≤ ct) (hcv : nv ≤ cv) (hck : checkR O T R V = true) (hno : O.length = n + 1) (hs : s < n) (ht : t < n)
    (S : Sep w0 w [.blk gb 201 #[.func (.func 111) #[] #[.pointer (some ⟨gr, 0, none⟩)], .slice qb n n, .slice qfb0 1 1], .own 3 1 qfb0 1 1 (encI [(t : Int)]), .own 3 1 qb n n (encI (bf0 n t)), .blk ga 201 #[.func (.func 110) #[] #[.pointer (some ⟨gr, 0, none⟩)], .slice qa n n, .slice qfa0 1 1], .own 3 1 qfa0 1 1 (encI [(s : Int)]), .own 3 1 qa n n (encI (bf0 n s)), .blk gr 41 #[.slice po no co, .slice pt nt ct, .slice pr nr cr, .slice pv nv cv]]) :
    Calls Tryz.prog 78 #[.agg #[.pointer (some ⟨ga, 0, none⟩), .pointer (some ⟨gb, 0, none⟩)]] w fun e w' => e = .returned (.tuple #[.int .i64 (stepsN n (lev (rowL O T) n s) (lev (rowL R V) n t)), .int .i64 (distN (lev (rowL O T) n s t)), .bool (distB (lev (rowL O T) n s t))]) ∧ Ext w0 w' := by
  obtain ⟨e1, e2, e3, e4⟩ := checkR_half hck
  have r3 := offB_parts (halfB_off e3)
  have hn : n ≤ 200 := by omega
  have HREV : Hid (Rev (rowL O T) (rowL R V) n) := by have := nxR_rev hck false; rw [hno] at this; exact this
  have HIA : Hid (InN (rowL O T) n) := by have := row_in e3; rw [hno] at this; exact this
  have HIB : Hid (InN (rowL R V) n) := by have := row_in e4; rw [← e1, hno] at this; exact this
  have HNA := Lib.hid (fun W (h : Ext w0 W) (hB : Blk W gr 41 #[.slice po no co, .slice pt nt ct, .slice pr nr cr, .slice pv nv cv]) k (hk : k < n) => open1Gr po no co O pt nt ct T pr nr cr R pv nv cv V gr k W (hO.ext h) (hT.ext h) (offOk_of (halfB_off e3)) hct (by omega) hB)
  have HNB := Lib.hid (fun W (h : Ext w0 W) (hB : Blk W gr 41 #[.slice po no co, .slice pt nt ct, .slice pr nr cr, .slice pv nv cv]) k (hk : k < n) => open2Gr po no co O pt nt ct T pr nr cr R pv nv cv V gr k W (hR.ext h) (hV.ext h) (offOk_of (halfB_off e4)) hcv (by omega) hB)
  have S0 := Lib.hid ((((((S.many0 3 1).pick [5, 0, 1, 2, 3, 4, 6, 7] (by decide) rfl).gather).pick [2, 0, 1, 3, 4, 5, 6] (by decide) rfl).gather.al #[.pointer (some ⟨ga, 0, none⟩), .pointer (some ⟨gb, 0, none⟩)] 120 w.heap.size rfl).pick [1, 2, 3, 4, 5, 6, 0] (by decide) rfl)
  clear S hO hT hR hV hct hcv hck e1 e2 e3 e4 r3 hno
  have HSA := cut_0 (nx := rowL O T) hs
  have HSB := cut_0 (nx := rowL R V) ht
  generalize rowL O T = na at *
  generalize rowL R V = nb at *
  go_enter Tryz.func78, Tryz.ntmps78
  go_wp2
  go_step3
  go_wp2
  go_step3
  go_wp2
  go_loopw [2, 3, 4, 5, 6] (fun i _ _ _ _ wr => ∃ (k : Nat) (Fa Fb : List Int) (qfa qfb : Option Addr) (cfa cfb : Nat), k < n ∧ i = .int .i64 k ∧ IsFront (lev na n s) n k Fa ∧ IsFront (lev nb n t) n k Fb ∧ 0 < Fa.length ∧ 0 < Fb.length ∧ (0 ≤ lev na n s t → 2 * (k:Int) ≤ lev na n s t + 1) ∧ stepsK n (lev na n s) (lev nb n t) (n + 1 - k) k = stepsN n (lev na n s) (lev nb n t) ∧ Sep w0 wr [.many 3 1 [(⟨qfa, Fa.length, cfa⟩, encI Fa), (⟨qfb, Fb.length, cfb⟩, encI Fb)], .blk gb 201 #[.func (.func 111) #[] #[.pointer (some ⟨gr, 0, none⟩)], .slice qb n n, .slice qfb Fb.length cfb], .own 3 1 qb n n (encI (cutL (lev nb n t) n k)), .blk ga 201 #[.func (.func 110) #[] #[.pointer (some ⟨gr, 0, none⟩)], .slice qa n n, .slice qfa Fa.length cfa], .own 3 1 qa n n (encI (cutL (lev na n s) n k)), .blk gr 41 #[.slice po no co, .slice pt nt ct, .slice pr nr cr, .slice pv nv cv], .blk w.heap.size 120 #[.pointer (some ⟨ga, 0, none⟩), .pointer (some ⟨gb, 0, none⟩)]]) (fun i _ _ _ _ _ => n - (intOf i).toNat)
  case atStart => exact ⟨0, [(s:Int)], [(t:Int)], qfa0, qfb0, 1, 1, by omega, rfl, front_0 hs, front_0 ht, by simp, by simp, fun h => by omega, rfl, by rw [show ((0 : Nat) : Int) = 0 from rfl, HSA, HSB]; exact S0.out⟩
  case round =>
    clear S0
    obtain ⟨k, Fa, Fb, qfa, qfb, cfa, cfb, hkn, rfl, hFa, hFb, la, lb, hD, hst, S⟩ := hrel
    have RFA := S.rdMany 0 rfl (r := (⟨qfa, Fa.length, cfa⟩, encI Fa)) (by simp) (by have := nodup_small (n := n) hFa.1 (fun x hx => by have := (hFa.2 x).1 hx; omega); simp only; omega)
    have RFB := S.rdMany 0 rfl (r := (⟨qfb, Fb.length, cfb⟩, encI Fb)) (by simp) (by have := nodup_small (n := n) hFb.1 (fun x hx => by have := (hFb.2 x).1 hx; omega); simp only; omega)
    have lfa := nodup_small (n := n) hFa.1 (fun x hx => by have := (hFa.2 x).1 hx; omega)
    have lfb := nodup_small (n := n) hFb.1 (fun x hx => by have := (hFb.2 x).1 hx; omega)
    have HBest := Lib.hid (bestG 110 111 gr ga gb n qa n (cutL (lev na n s) n k) qfa Fa.length cfa qb n (cutL (lev nb n t) n k) qfb Fb.length cfb wr (S.blk 3 rfl) (S.blk 1 rfl) (S.rd 4 rfl (by omega)) (S.rd 2 rfl (by omega)) hn
      (fun v hv => by rw [cutL_nth hv]; unfold cut; split <;> omega) (fun v hv => by rw [cutL_nth hv]; unfold cut; split <;> omega))
    obtain ⟨BY, BN⟩ := best_lev HREV.out hs ht hD
    have pz := (S.blk 6 rfl).lt
    have p0 := (S.blk 6 rfl).cell 0
    have p1 := (S.blk 6 rfl).cell 1
    cases hm : meetB n (lev na n s) (lev nb n t) k with
    | true =>
      rw [BY hm] at HBest
      have hd := (meet_lev HREV.out hs ht).1 hm
      have hdn : Hid (distN (lev na n s t) = lev na n s t ∧ distB (lev na n s t) = true) := by
        unfold Hid distN distB; rw [if_pos hd.1]; exact ⟨rfl, by simpa using hd.1⟩
      have hst2 : Hid (stepsN n (lev na n s) (lev nb n t) = k) := by
        unfold Hid
        rw [← hst, show n + 1 - k = (n - k) + 1 by omega]; exact stepsK_meet hm
      obtain ⟨D, hDe⟩ : ∃ D, D = lev na n s t := ⟨_, rfl⟩
      rw [← hDe] at HBest
      have hDe' := Lib.hid hDe
      have SH := Lib.hid S; clear S
      clear BY BN hD hst hm hd hFa hFb la lb RFA RFB lfa lfb HNA HNB HREV HIA HIB HSA HSB hDe
      go_wp2_with (go_at_call 113; go_must (refine HBest.out.mono ?_; rintro e w1 ⟨rfl, hb⟩; have S1 := Lib.hid (SH.out.call hb); clear hb))
      rw [Exit.noGoto_ret]
      go_ret3
      exact ⟨by rw [hst2.out, hdn.out.1, hdn.out.2, ← hDe'.out]; rfl, S1.out.ext⟩
    | false =>
      rw [BN hm] at HBest
      have HX := Lib.hid (front_next hs HIA.out hFa (X := cutL (lev na n s) n k) (fun v hv => by rw [cutL_nth hv]; exact cut_lt))
      have HY := Lib.hid (front_next ht HIB.out hFb (X := cutL (lev nb n t) n k) (fun v hv => by rw [cutL_nth hv]; exact cut_lt))
      have hm' := Lib.hid hm
      have hst' := Lib.hid hst
      have hD' := Lib.hid hD
      have BA := Lib.hid (fun x hx => ⟨((hFa.2 x).1 hx).1, ((hFa.2 x).1 hx).2.1⟩ : ∀ x ∈ Fa, 0 ≤ x ∧ x < n)
      have BB := Lib.hid (fun x hx => ⟨((hFb.2 x).1 hx).1, ((hFb.2 x).1 hx).2.1⟩ : ∀ x ∈ Fb, 0 ≤ x ∧ x < n)
      have FAH := Lib.hid hFa
      have FBH := Lib.hid hFb
      have SH := Lib.hid S; clear S
      clear BY BN hD hst hm hFa hFb RFA RFB HSA HSB
      go_wp2_with (go_at_call 113; go_must (refine HBest.out.mono ?_; rintro e w1 ⟨rfl, hb⟩; have S1 := Lib.hid (SH.out.call hb); clear hb))
      have HA1 := Lib.hid (fun W (h : Ext w1 W) => ahead1 ga gr n qa n (cutL (lev na n s) n k) qfa Fa.length cfa Fa na W ((S1.out.blk 3 rfl).ext h) ((S1.out.rd 4 rfl (by omega)).ext h) ((S1.out.rdMany 0 rfl (r := (⟨qfa, Fa.length, cfa⟩, encI Fa)) (by simp) (by simp only; omega)).ext h) hn BA.out HIA.out (HNA.out W (Ext.trans S1.out.ext h) ((S1.out.blk 5 rfl).ext h)))
      have HA2 := Lib.hid (fun W (h : Ext w1 W) => ahead2 gb gr n qb n (cutL (lev nb n t) n k) qfb Fb.length cfb Fb nb W ((S1.out.blk 1 rfl).ext h) ((S1.out.rd 2 rfl (by omega)).ext h) ((S1.out.rdMany 0 rfl (r := (⟨qfb, Fb.length, cfb⟩, encI Fb)) (by simp) (by simp only; omega)).ext h) hn BB.out HIB.out (HNB.out W (Ext.trans S1.out.ext h) ((S1.out.blk 5 rfl).ext h)))
      generalize ahF na (cutL (lev na n s) n k) Fa [] = x at *
      generalize ahF nb (cutL (lev nb n t) n k) Fb [] = y at *
      have lx := nodup_small (n := n) HX.out.1 (fun v hv => by have := (HX.out.2 v).1 hv; omega)
      have ly := nodup_small (n := n) HY.out.1 (fun v hv => by have := (HY.out.2 v).1 hv; omega)
      have q0 := (S1.out.blk 6 rfl).cell 0
      have q1 := (S1.out.blk 6 rfl).cell 1
      clear HBest SH
      have y0 := fun x : ExtOf w1 => x.ext.cell q0
      have y1 := fun x : ExtOf w1 => x.ext.cell q1
      refine wp_region_mix [true, true, false, true, true, false] (RunQ w1.heap.size x y) (by kernel_rfl) (by kernel_rfl) (by kernel_rfl) RunQ_mono ?_
      simp only [nfM]
      repeat (go_big_quiet_step ((fail)))
      refine wpQuiet_nil ⟨⟨fun vs W1 hE hd => ?_, fun vs W1 hE hd => ?_, trivial⟩, fun vs W1 hE hkn => ?_⟩
      · simp [putM, go_sem]
        exact (HA1.out _ hE).mono fun e w' ⟨q, c, h1, S⟩ => ⟨_, h1, ⟨q, c, rfl, own_base (S.own 0 rfl) hE.size⟩, S.ext⟩
      · simp [putM, go_sem]
        exact (HA2.out _ hE).mono fun e w' ⟨q, c, h1, S⟩ => ⟨_, h1, ⟨q, c, rfl, own_base (S.own 0 rfl) hE.size⟩, S.ext⟩
      obtain ⟨⟨qx, cx, k1, ox⟩, ⟨qy, cy, k2, oy⟩, _⟩ := hkn
      have S2 := Lib.hid (S1.out.freshMany hE (rows := [(⟨qx, x.length, cx⟩, encI x), (⟨qy, y.length, cy⟩, encI y)]) (fun r hr => by
        simp only [List.mem_cons, List.not_mem_nil, or_false] at hr
        rcases hr with rfl | rfl
        · exact ox
        · exact oy))
      simp only [putM, k1, k2, List.length_cons, List.length_nil, Nat.zero_add, Nat.reduceAdd, List.drop_succ_cons, List.drop_zero]
      clear y0 y1 k1 k2 ox oy hE q0 q1 HA1 HA2 S1
      have r0 := (S2.out.blk 7 rfl).cell 0
      have r1 := (S2.out.blk 7 rfl).cell 1
      have rz := (S2.out.blk 7 rfl).lt
      have HEND : Hid (x.length = 0 ∨ y.length = 0 → stepsN n (lev na n s) (lev nb n t) = k ∧ distN (lev na n s t) = 0 ∧ distB (lev na n s t) = false) := fun h0 => by
        have hno : ¬ (hasL n (lev na n s) ((k:Int) + 1) = true ∧ hasL n (lev nb n t) ((k:Int) + 1) = true) := by
          rintro ⟨g1, g2⟩
          have g1 := (front_has HX.out).1 g1
          have g2 := (front_has HY.out).1 g2
          omega
        have hneg : lev na n s t < 0 := by
          apply Classical.byContradiction
          intro hge
          have := go_has HREV.out hs ht (by omega) hm'.out
          exact hno ⟨this.1, this.2.1⟩
        refine ⟨?_, ?_, ?_⟩
        · have h1 := hst'.out
          rw [show n + 1 - k = (n - k) + 1 by omega, stepsK_end hm'.out hno] at h1
          exact h1.symm
        · unfold distN; rw [if_neg (by omega)]
        · unfold distB; simp; omega
      by_cases hx0 : x.length = 0
      · have c1 : ((x.length : Int) == 0) = true := by simp [hx0]
        have HE := Lib.hid (HEND.out (.inl hx0))
        go_wp2
        rw [Exit.noGoto_ret]
        go_ret3
        exact ⟨by rw [HE.out.1, HE.out.2.1, HE.out.2.2]; rfl, S2.out.ext⟩
      · have c1 : ((x.length : Int) == 0) = false := by rw [beq_eq_false_iff_ne]; omega
        by_cases hy0 : y.length = 0
        · have c2 : ((y.length : Int) == 0) = true := by simp [hy0]
          have HE := Lib.hid (HEND.out (.inr hy0))
          go_wp2
          rw [Exit.noGoto_ret]
          go_ret3
          exact ⟨by rw [HE.out.1, HE.out.2.1, HE.out.2.2]; rfl, S2.out.ext⟩
        · have c2 : ((y.length : Int) == 0) = false := by rw [beq_eq_false_iff_ne]; omega
          clear HEND
          have hfa0 := (FAH.out.2 _).1 (nth_mem (l := Fa) (k := 0) la)
          have hfb0 := (FBH.out.2 _).1 (nth_mem (l := Fb) (k := 0) lb)
          have HTA := Lib.hid (take_cut HX.out)
          have HTB := Lib.hid (take_cut HY.out)
          have T1 := Lib.hid (takeG 4 5 ga 110 gr n qa n (cutL (lev na n s) n k) qfa Fa.length cfa Fa qx x.length cx x S2.out (by decide) rfl rfl
            (fun W Y S => S.rdMany 1 rfl (r := (⟨qfa, Fa.length, cfa⟩, encI Fa)) (by simp) (by simp only; omega))
            (fun W Y S => S.rdMany 0 rfl (r := (⟨qx, x.length, cx⟩, encI x)) (by simp) (by simp only; omega))
            hn la (by omega) (by omega) ⟨hfa0.1, hfa0.2.1⟩ (fun v hv => ⟨((HX.out.2 v).1 hv).1, ((HX.out.2 v).1 hv).2.1⟩) (fun h => by have := ((HX.out.2 _).1 h).2.2; omega)
            (k:Int) (by rw [cutL_nth (by omega)]; unfold cut; rw [if_pos (by omega)]; exact hfa0.2.2) (by omega))
          rw [HTA.out] at T1
          have T2 := Lib.hid (fun (w2 : World) (S : Sep w0 w2 [.many 3 1 [(⟨qx, x.length, cx⟩, encI x), (⟨qy, y.length, cy⟩, encI y)], .many 3 1 [(⟨qfa, Fa.length, cfa⟩, encI Fa), (⟨qfb, Fb.length, cfb⟩, encI Fb)], .blk gb 201 #[.func (.func 111) #[] #[.pointer (some ⟨gr, 0, none⟩)], .slice qb n n, .slice qfb Fb.length cfb], .own 3 1 qb n n (encI (cutL (lev nb n t) n k)), .blk ga 201 #[.func (.func 110) #[] #[.pointer (some ⟨gr, 0, none⟩)], .slice qa n n, .slice qx x.length cx], .own 3 1 qa n n (encI (cutL (lev na n s) n (k + 1 : Nat))), .blk gr 41 #[.slice po no co, .slice pt nt ct, .slice pr nr cr, .slice pv nv cv], .blk w.heap.size 120 #[.pointer (some ⟨ga, 0, none⟩), .pointer (some ⟨gb, 0, none⟩)]]) =>
            takeG 2 3 gb 111 gr n qb n (cutL (lev nb n t) n k) qfb Fb.length cfb Fb qy y.length cy y S (by decide) rfl rfl
            (fun W Y S => S.rdMany 1 rfl (r := (⟨qfb, Fb.length, cfb⟩, encI Fb)) (by simp) (by simp only; omega))
            (fun W Y S => S.rdMany 0 rfl (r := (⟨qy, y.length, cy⟩, encI y)) (by simp) (by simp only; omega))
            hn lb (by omega) (by omega) ⟨hfb0.1, hfb0.2.1⟩ (fun v hv => ⟨((HY.out.2 v).1 hv).1, ((HY.out.2 v).1 hv).2.1⟩) (fun h => by have := ((HY.out.2 _).1 h).2.2; omega)
            (k:Int) (by rw [cutL_nth (by omega)]; unfold cut; rw [if_pos (by omega)]; exact hfb0.2.2) (by omega))
          rw [HTB.out] at T2
          clear HTA HTB hfa0 hfb0
          have hk1 : k + 1 < n := has_lt hs ((front_has HX.out).2 (by omega))
          have HDD : Hid (0 ≤ lev na n s t → 2 * ((k + 1 : Nat) : Int) ≤ lev na n s t + 1) := fun h0 => by
            have := (go_has HREV.out hs ht h0 hm'.out).2.2; omega
          have HSS : Hid (stepsK n (lev na n s) (lev nb n t) (n + 1 - (k + 1)) (k + 1) = stepsN n (lev na n s) (lev nb n t)) := by
            unfold Hid
            rw [← hst'.out, show n + 1 - k = (n - k) + 1 by omega, show n + 1 - (k + 1) = n - k by omega]
            exact (stepsK_go hm'.out ⟨(front_has HX.out).2 (by omega), (front_has HY.out).2 (by omega)⟩).symm
          go_wp2_with (first
            | (go_at_call 115; have _t := S3; go_must (refine (T2.out _ S3.out).mono ?_; rintro e w3 ⟨⟨v2, rfl⟩, Z⟩; have S4 := Lib.hid ((Z.pick [0, 2, 3, 4, 5, 6, 7] (by decide) rfl) : Sep w0 w3 [.many 3 1 [(⟨qx, x.length, cx⟩, encI x), (⟨qy, y.length, cy⟩, encI y)], .blk gb 201 #[.func (.func 111) #[] #[.pointer (some ⟨gr, 0, none⟩)], .slice qb n n, .slice qy y.length cy], .own 3 1 qb n n (encI (cutL (lev nb n t) n (k + 1 : Nat))), .blk ga 201 #[.func (.func 110) #[] #[.pointer (some ⟨gr, 0, none⟩)], .slice qa n n, .slice qx x.length cx], .own 3 1 qa n n (encI (cutL (lev na n s) n (k + 1 : Nat))), .blk gr 41 #[.slice po no co, .slice pt nt ct, .slice pr nr cr, .slice pv nv cv], .blk w.heap.size 120 #[.pointer (some ⟨ga, 0, none⟩), .pointer (some ⟨gb, 0, none⟩)]]); clear Z))
            | (go_at_call 115; go_must (refine T1.out.mono ?_; rintro e w2 ⟨⟨v1, rfl⟩, Z⟩; have S3 := Lib.hid (Z : Sep w0 w2 [.many 3 1 [(⟨qx, x.length, cx⟩, encI x), (⟨qy, y.length, cy⟩, encI y)], .many 3 1 [(⟨qfa, Fa.length, cfa⟩, encI Fa), (⟨qfb, Fb.length, cfb⟩, encI Fb)], .blk gb 201 #[.func (.func 111) #[] #[.pointer (some ⟨gr, 0, none⟩)], .slice qb n n, .slice qfb Fb.length cfb], .own 3 1 qb n n (encI (cutL (lev nb n t) n k)), .blk ga 201 #[.func (.func 110) #[] #[.pointer (some ⟨gr, 0, none⟩)], .slice qa n n, .slice qx x.length cx], .own 3 1 qa n n (encI (cutL (lev na n s) n (k + 1 : Nat))), .blk gr 41 #[.slice po no co, .slice pt nt ct, .slice pr nr cr, .slice pv nv cv], .blk w.heap.size 120 #[.pointer (some ⟨ga, 0, none⟩), .pointer (some ⟨gb, 0, none⟩)]]); have q0 := (S3.out.blk 7 rfl).cell 0; have q1 := (S3.out.blk 7 rfl).cell 1; have qz := (S3.out.blk 7 rfl).lt; clear Z)))
          go_roundw
          case rel => exact ⟨k + 1, x, y, qx, qy, cx, cy, hk1, by go_num, HX.out, HY.out, by omega, by omega, HDD.out, HSS.out, S4.out⟩
          case measure => simp [intOf]; omega
end Go.Proofs.YtkekibnhmfmhmaaGreat
/- The program's searches (chapter 8): open, Dist, Steps. -/
namespace Go.Proofs.YtkekibnhmfmhmaaGreat
open Go Go.RowKit
/-- the error of two places -/
def pairC (ck : Bool) (O : List Int) (s t : Int) : Int := if ck = true then (if (0 ≤ s ∧ s < (O.length : Int) - 1) ∧ 0 ≤ t ∧ t < (O.length : Int) - 1 then 0 else 1) else 40
set_option maxRecDepth 100000 in
set_option maxHeartbeats 4000000 in
theorem openG_no (po : Option Addr) (no co : Nat) (O : List Int) (pt : Option Addr) (nt ct : Nat) (T : List Int) (pr : Option Addr) (nr cr : Nat) (R : List Int) (pv : Option Addr) (nv cv : Nat) (V : List Int) (s t : Int) (w : World) (hO : Rd w 1 po no (encI O)) (hT : Rd w 1 pt nt (encI T)) (hR : Rd w 1 pr nr (encI R)) (hV : Rd w 1 pv nv (encI V)) (hct : nt ≤ ct) (hcv : nv ≤ cv) (hc : pairC (checkR O T R V) O s t ≠ 0) :
    Calls Tryz.prog 77 #[.agg #[.slice po no co, .slice pt nt ct, .slice pr nr cr, .slice pv nv cv], .int .i64 s, .int .i64 t] w fun e w' => e = .returned (.tuple #[.agg #[.pointer none, .pointer none], .int .i64 (pairC (checkR O T R V) O s t)]) ∧ Ext w w' := by
  have S0 := Lib.hid (((Sep.start w).al #[.slice po no co, .slice pt nt ct, .slice pr nr cr, .slice pv nv cv] 41 w.heap.size rfl).al #[.pointer none, .pointer none] 120 (w.heap.size + 1) (by simp))
  have HC := Lib.hid (fun W1 (h : Ext w W1) => CheckR po no co O pt nt ct T pr nr cr R pv nv cv V W1 (hO.ext h) (hT.ext h) (hR.ext h) (hV.ext h) hct hcv)
  have l1 := hO.nI
  have n1 := hO.small
  clear hO hT hR hV
  unfold pairC at *
  cases hck : checkR O T R V with
  | false =>
    rw [hck] at HC
    clear hck hc l1
    rw [if_neg (by simp)]
    go_enter Tryz.func77, Tryz.ntmps77
    go_wp2_with (go_at_call 56; go_must (refine (HC.out _ S0.out.ext).mono ?_; rintro e w1 ⟨rfl, hb⟩; have S1 := Lib.hid (S0.out.call hb); have pz := (S1.out.blk 0 rfl).lt; have p0 := (S1.out.blk 0 rfl).cell 0; have p1 := (S1.out.blk 0 rfl).cell 1; have pf := (S1.out.blk 0 rfl).frozen 0; have pg := (S1.out.blk 0 rfl).frozen 1; clear hb))
    have S7 := ((S1.out.set 0 rfl 0 (.pointer none)).set 0 rfl 1 (.pointer none))
    have b0 := (S7.blk 0 rfl).cell 0
    have b1 := (S7.blk 0 rfl).cell 1
    refine bodyPost_ret (v := .tuple #[.agg #[.pointer none, .pointer none], .int .i64 40]) (by simp [results, Tryz.results77, go_sem, b0, b1, Tryz.sizeOf120, Tryz.isAgg120]) rfl ⟨rfl, S7.ext⟩
  | true =>
    rw [hck, if_pos rfl] at hc
    rw [hck] at HC
    rw [if_pos rfl]
    have hno : ¬ ((0 ≤ s ∧ s < (O.length : Int) - 1) ∧ 0 ≤ t ∧ t < (O.length : Int) - 1) := fun h => by rw [if_pos h] at hc; exact hc rfl
    rw [if_neg hno]
    clear hck hc
    by_cases h1 : s < 0
    · have d1 : decide (s < 0) = true := by simpa using h1
      clear hno l1
      go_enter Tryz.func77, Tryz.ntmps77
      go_wp2_with (go_at_call 56; go_must (refine (HC.out _ S0.out.ext).mono ?_; rintro e w1 ⟨rfl, hb⟩; have S1 := Lib.hid (S0.out.call hb); have pz := (S1.out.blk 0 rfl).lt; have p0 := (S1.out.blk 0 rfl).cell 0; have p1 := (S1.out.blk 0 rfl).cell 1; have pf := (S1.out.blk 0 rfl).frozen 0; have pg := (S1.out.blk 0 rfl).frozen 1; clear hb))
      have S7 := ((S1.out.set 0 rfl 0 (.pointer none)).set 0 rfl 1 (.pointer none))
      have b0 := (S7.blk 0 rfl).cell 0
      have b1 := (S7.blk 0 rfl).cell 1
      refine bodyPost_ret (v := .tuple #[.agg #[.pointer none, .pointer none], .int .i64 1]) (by simp [results, Tryz.results77, go_sem, b0, b1, Tryz.sizeOf120, Tryz.isAgg120]) rfl ⟨rfl, S7.ext⟩
    · have d1 : decide (s < 0) = false := by simpa using h1
      by_cases h2 : (no:Int) - 1 ≤ s
      · have d2 : decide ((no:Int) - 1 ≤ s) = true := by simpa using h2
        clear hno l1
        go_enter Tryz.func77, Tryz.ntmps77
        go_wp2_with (go_at_call 56; go_must (refine (HC.out _ S0.out.ext).mono ?_; rintro e w1 ⟨rfl, hb⟩; have S1 := Lib.hid (S0.out.call hb); have pz := (S1.out.blk 0 rfl).lt; have p0 := (S1.out.blk 0 rfl).cell 0; have p1 := (S1.out.blk 0 rfl).cell 1; have pf := (S1.out.blk 0 rfl).frozen 0; have pg := (S1.out.blk 0 rfl).frozen 1; clear hb))
        have S7 := ((S1.out.set 0 rfl 0 (.pointer none)).set 0 rfl 1 (.pointer none))
        have b0 := (S7.blk 0 rfl).cell 0
        have b1 := (S7.blk 0 rfl).cell 1
        refine bodyPost_ret (v := .tuple #[.agg #[.pointer none, .pointer none], .int .i64 1]) (by simp [results, Tryz.results77, go_sem, b0, b1, Tryz.sizeOf120, Tryz.isAgg120]) rfl ⟨rfl, S7.ext⟩
      · have d2 : decide ((no:Int) - 1 ≤ s) = false := by simpa using h2
        by_cases h3 : t < 0
        · have d3 : decide (t < 0) = true := by simpa using h3
          clear hno l1
          go_enter Tryz.func77, Tryz.ntmps77
          go_wp2_with (go_at_call 56; go_must (refine (HC.out _ S0.out.ext).mono ?_; rintro e w1 ⟨rfl, hb⟩; have S1 := Lib.hid (S0.out.call hb); have pz := (S1.out.blk 0 rfl).lt; have p0 := (S1.out.blk 0 rfl).cell 0; have p1 := (S1.out.blk 0 rfl).cell 1; have pf := (S1.out.blk 0 rfl).frozen 0; have pg := (S1.out.blk 0 rfl).frozen 1; clear hb))
          have S7 := ((S1.out.set 0 rfl 0 (.pointer none)).set 0 rfl 1 (.pointer none))
          have b0 := (S7.blk 0 rfl).cell 0
          have b1 := (S7.blk 0 rfl).cell 1
          refine bodyPost_ret (v := .tuple #[.agg #[.pointer none, .pointer none], .int .i64 1]) (by simp [results, Tryz.results77, go_sem, b0, b1, Tryz.sizeOf120, Tryz.isAgg120]) rfl ⟨rfl, S7.ext⟩
        · have d3 : decide (t < 0) = false := by simpa using h3
          have h4 : (no:Int) - 1 ≤ t := by
            apply Classical.byContradiction
            intro h4
            exact hno (by omega)
          have d4 : decide ((no:Int) - 1 ≤ t) = true := by simpa using h4
          clear hno l1
          go_enter Tryz.func77, Tryz.ntmps77
          go_wp2_with (go_at_call 56; go_must (refine (HC.out _ S0.out.ext).mono ?_; rintro e w1 ⟨rfl, hb⟩; have S1 := Lib.hid (S0.out.call hb); have pz := (S1.out.blk 0 rfl).lt; have p0 := (S1.out.blk 0 rfl).cell 0; have p1 := (S1.out.blk 0 rfl).cell 1; have pf := (S1.out.blk 0 rfl).frozen 0; have pg := (S1.out.blk 0 rfl).frozen 1; clear hb))
          have S7 := ((S1.out.set 0 rfl 0 (.pointer none)).set 0 rfl 1 (.pointer none))
          have b0 := (S7.blk 0 rfl).cell 0
          have b1 := (S7.blk 0 rfl).cell 1
          refine bodyPost_ret (v := .tuple #[.agg #[.pointer none, .pointer none], .int .i64 1]) (by simp [results, Tryz.results77, go_sem, b0, b1, Tryz.sizeOf120, Tryz.isAgg120]) rfl ⟨rfl, S7.ext⟩
set_option maxRecDepth 100000 in
set_option maxHeartbeats 4000000 in
theorem openG_yes (po : Option Addr) (no co : Nat) (O : List Int) (pt : Option Addr) (nt ct : Nat) (T : List Int) (pr : Option Addr) (nr cr : Nat) (R : List Int) (pv : Option Addr) (nv cv : Nat) (V : List Int) (n s t : Nat) (w : World) (hO : Rd w 1 po no (encI O)) (hT : Rd w 1 pt nt (encI T)) (hR : Rd w 1 pr nr (encI R)) (hV : Rd w 1 pv nv (encI V)) (hct : nt ≤ ct) (hcv : nv ≤ cv) (hck : checkR O T R V = true) (hno : O.length = n + 1) (hs : s < n) (ht : t < n) :
    Calls Tryz.prog 77 #[.agg #[.slice po no co, .slice pt nt ct, .slice pr nr cr, .slice pv nv cv], .int .i64 s, .int .i64 t] w fun e w' => ∃ gr ga gb qa qb qfa0 qfb0, e = .returned (.tuple #[.agg #[.pointer (some ⟨ga, 0, none⟩), .pointer (some ⟨gb, 0, none⟩)], .int .i64 0]) ∧
      Sep w w' [.blk gb 201 #[.func (.func 111) #[] #[.pointer (some ⟨gr, 0, none⟩)], .slice qb n n, .slice qfb0 1 1], .own 3 1 qfb0 1 1 (encI [(t : Int)]), .own 3 1 qb n n (encI (bf0 n t)), .blk ga 201 #[.func (.func 110) #[] #[.pointer (some ⟨gr, 0, none⟩)], .slice qa n n, .slice qfa0 1 1], .own 3 1 qfa0 1 1 (encI [(s : Int)]), .own 3 1 qa n n (encI (bf0 n s)), .blk gr 41 #[.slice po no co, .slice pt nt ct, .slice pr nr cr, .slice pv nv cv]] := by
  have S0 := Lib.hid (((Sep.start w).al #[.slice po no co, .slice pt nt ct, .slice pr nr cr, .slice pv nv cv] 41 w.heap.size rfl).al #[.pointer none, .pointer none] 120 (w.heap.size + 1) (by simp))
  have HC := Lib.hid (fun W1 (h : Ext w W1) => CheckR po no co O pt nt ct T pr nr cr R pv nv cv V W1 (hO.ext h) (hT.ext h) (hR.ext h) (hV.ext h) hct hcv)
  have l1 := hO.nI
  have r := offB_parts (halfB_off (checkR_half hck).2.2.1)
  have hn : n ≤ 200 := by omega
  rw [hck] at HC
  have hno2 : (no:Int) = (n:Int) + 1 := by omega
  obtain rfl : no = n + 1 := by omega
  have d1 : decide ((s:Int) < 0) = false := by simp
  have d2 : decide ((n:Int) ≤ s) = false := by simp; omega
  have d3 : decide ((t:Int) < 0) = false := by simp
  have d4 : decide ((n:Int) ≤ t) = false := by simp; omega
  have d5 : decide (n ≤ s) = false := by simp; omega
  have d6 : decide (n ≤ t) = false := by simp; omega
  have HB1 := Lib.hid (fun W => beginG 110 w.heap.size n s W hs hn)
  have HB2 := Lib.hid (fun W => beginG 111 w.heap.size n t W ht hn)
  clear hO hT hR hV hck l1 r hno hno2
  go_enter Tryz.func77, Tryz.ntmps77
  go_wp2_with (first
    | (go_at_call 112; have _t := S2; go_must (refine (HB2.out _).mono ?_; rintro e w3 ⟨gb, qb, qfb0, rfl, Z⟩; have S3 := Lib.hid (S2.out.comp Z); have qz := (S3.out.blk 6 rfl).lt; have q0 := (S3.out.blk 6 rfl).cell 0; have q1 := (S3.out.blk 6 rfl).cell 1; have qf := (S3.out.blk 6 rfl).frozen 0; have qg := (S3.out.blk 6 rfl).frozen 1; clear Z))
    | (go_at_call 112; have _t := S1; go_must (refine (HB1.out _).mono ?_; rintro e w2 ⟨ga, qa, qfa0, rfl, Z⟩; have S2 := Lib.hid (S1.out.comp Z); clear Z))
    | (go_at_call 56; go_must (refine (HC.out _ S0.out.ext).mono ?_; rintro e w1 ⟨rfl, hb⟩; have S1 := Lib.hid (S0.out.call hb); clear hb)))
  have S7 := ((S3.out.set 6 rfl 0 (.pointer (some ⟨ga, 0, none⟩))).set 6 rfl 1 (.pointer (some ⟨gb, 0, none⟩)))
  have b0 := (S7.blk 6 rfl).cell 0
  have b1 := (S7.blk 6 rfl).cell 1
  refine bodyPost_ret (v := .tuple #[.agg #[.pointer (some ⟨ga, 0, none⟩), .pointer (some ⟨gb, 0, none⟩)], .int .i64 0]) (by simp [results, Tryz.results77, go_sem, b0, b1, Tryz.sizeOf120, Tryz.isAgg120]) rfl ⟨w.heap.size, ga, gb, qa, qb, qfa0, qfb0, rfl, ?_⟩
  exact S7.pick [0, 1, 2, 3, 4, 5, 7] (by decide) rfl
end Go.Proofs.YtkekibnhmfmhmaaGreat
/- The program's searches (chapter 8): Dist, Steps. -/
namespace Go.Proofs.YtkekibnhmfmhmaaGreat
open Go Go.RowKit
set_option maxRecDepth 100000 in
set_option maxHeartbeats 4000000 in
theorem DistG_no (po : Option Addr) (no co : Nat) (O : List Int) (pt : Option Addr) (nt ct : Nat) (T : List Int) (pr : Option Addr) (nr cr : Nat) (R : List Int) (pv : Option Addr) (nv cv : Nat) (V : List Int) (s t : Int) (w : World) (hO : Rd w 1 po no (encI O)) (hT : Rd w 1 pt nt (encI T)) (hR : Rd w 1 pr nr (encI R)) (hV : Rd w 1 pv nv (encI V)) (hct : nt ≤ ct) (hcv : nv ≤ cv) (hc : pairC (checkR O T R V) O s t ≠ 0) :
    Calls Tryz.prog 41 #[.agg #[.slice po no co, .slice pt nt ct, .slice pr nr cr, .slice pv nv cv], .int .i64 s, .int .i64 t] w fun e w' => e = .returned (.tuple #[.int .i64 0, .bool false, .int .i64 (pairC (checkR O T R V) O s t)]) ∧ Ext w w' := by
  have HO := Lib.hid (fun W1 (h : Ext w W1) => openG_no po no co O pt nt ct T pr nr cr R pv nv cv V s t W1 (hO.ext h) (hT.ext h) (hR.ext h) (hV.ext h) hct hcv hc)
  have S0 := Lib.hid ((Sep.start w).al #[.slice po no co, .slice pt nt ct, .slice pr nr cr, .slice pv nv cv] 41 w.heap.size rfl)
  generalize pairC (checkR O T R V) O s t = c at *
  have hc0 : (c != 0) = true := by simpa using hc
  clear hO hT hR hV hc
  go_enter Tryz.func41, Tryz.ntmps41
  go_wp2_with (go_at_call 77; go_must (refine (HO.out _ S0.out.ext).mono ?_; rintro e w1 ⟨rfl, hb⟩; have S1 := Lib.hid (S0.out.call hb); clear hb))
  go_ret3
  exact ⟨rfl, (S1.out.al #[.pointer none, .pointer none] 120 w1.heap.size rfl).ext⟩
set_option maxRecDepth 100000 in
set_option maxHeartbeats 4000000 in
theorem DistG_yes (po : Option Addr) (no co : Nat) (O : List Int) (pt : Option Addr) (nt ct : Nat) (T : List Int) (pr : Option Addr) (nr cr : Nat) (R : List Int) (pv : Option Addr) (nv cv : Nat) (V : List Int) (n s t : Nat) (w : World) (hO : Rd w 1 po no (encI O)) (hT : Rd w 1 pt nt (encI T)) (hR : Rd w 1 pr nr (encI R)) (hV : Rd w 1 pv nv (encI V)) (hct : nt ≤ ct) (hcv : nv ≤ cv) (hck : checkR O T R V = true) (hno : O.length = n + 1) (hs : s < n) (ht : t < n) :
    Calls Tryz.prog 41 #[.agg #[.slice po no co, .slice pt nt ct, .slice pr nr cr, .slice pv nv cv], .int .i64 s, .int .i64 t] w fun e w' => e = .returned (.tuple #[.int .i64 (distN (lev (rowL O T) n s t)), .bool (distB (lev (rowL O T) n s t)), .int .i64 0]) ∧ Ext w w' := by
  have HO := Lib.hid (fun W1 (h : Ext w W1) => openG_yes po no co O pt nt ct T pr nr cr R pv nv cv V n s t W1 (hO.ext h) (hT.ext h) (hR.ext h) (hV.ext h) hct hcv hck hno hs ht)
  have S0 := Lib.hid ((Sep.start w).al #[.slice po no co, .slice pt nt ct, .slice pr nr cr, .slice pv nv cv] 41 w.heap.size rfl)
  have HRUN := Lib.hid (fun gr ga gb qa qb qfa0 qfb0 W1 S => runG po no co O pt nt ct T pr nr cr R pv nv cv V gr ga gb n s t qa qb qfa0 qfb0 w W1 hO hT hR hV hct hcv hck hno hs ht S)
  clear hO hT hR hV hck hno
  go_enter Tryz.func41, Tryz.ntmps41
  go_wp2_with (first
    | (go_at_call 78; go_must (refine (HRUN.out gr ga gb qa qb qfa0 qfb0 _ ((S1.out.al #[.pointer (some ⟨ga, 0, none⟩), .pointer (some ⟨gb, 0, none⟩)] 120 w1.heap.size rfl).pick [1, 2, 3, 4, 5, 6, 7] (by decide) rfl)).mono ?_; rintro e w2 ⟨rfl, hb⟩; have HB := Lib.hid hb; clear hb))
    | (go_at_call 77; go_must (refine (HO.out _ S0.out.ext).mono ?_; rintro e w1 ⟨gr, ga, gb, qa, qb, qfa0, qfb0, rfl, Z⟩; have S1 := Lib.hid (S0.out.comp Z); clear Z)))
  go_ret3
  exact ⟨rfl, HB.out⟩
end Go.Proofs.YtkekibnhmfmhmaaGreat
/- What is near, within a greater radius, and by more words (chapter 9), in plain Lean. -/
namespace Go.Proofs.YtkekibnhmfmhmaaGreat
open Go Go.RowKit
/-- of what rises by how far it is the near ones come first -/
theorem near_first {rad : Int} : ∀ {l : List (Int × Int)}, Rises ltN l → l.filter (fun x => decide (x.2 ≤ rad)) = l.take (l.filter fun x => decide (x.2 ≤ rad)).length
  | [], _ => rfl
  | x :: l, h => by
    rw [Rises, List.pairwise_cons] at h
    by_cases e : x.2 ≤ rad
    · rw [List.filter_cons_of_pos (by simpa using e), List.length_cons, List.take_succ_cons, ← near_first h.2]
    · have hn : l.filter (fun x => decide (x.2 ≤ rad)) = [] := by
        rw [List.filter_eq_nil_iff]
        intro y hy
        have := ltN_iff.1 (h.1 y hy)
        simp; omega
      rw [List.filter_cons_of_neg (by simpa using e), hn]; rfl
theorem gatN_wider {d : List Int} {rad more : Int} {P : List Int} (h : rad ≤ more) : gatN d rad P = (gatN d more P).filter fun x => decide (x.2 ≤ rad) := by
  unfold gatN
  rw [List.filter_map, List.filter_filter]
  congr 1
  refine List.filter_congr fun v _ => ?_
  unfold goodN hitN
  simp only [Function.comp]
  by_cases h1 : nth d v.toNat ≤ rad
  · have h2 : nth d v.toNat ≤ more := by omega
    simp [h1, h2]
  · simp [h1]
theorem rises_filter {α : Type} {lt : α → α → Bool} {l : List α} (p : α → Bool) (h : Rises lt l) : Rises lt (l.filter p) := List.Pairwise.filter p h
theorem sortN_wider {d : List Int} {rad more : Int} {P : List Int} (hn : P.Nodup) (h : rad ≤ more) : sortN (gatN d rad P) = (sortN (gatN d more P)).take (sortN (gatN d rad P)).length := by
  have e : sortN (gatN d rad P) = (sortN (gatN d more P)).filter fun x => decide (x.2 ≤ rad) := by
    refine (sortN_uniq (gatN_nodup hn) (rises_filter _ (sortN_rises _ (gatN_nodup hn))) ?_).symm
    rw [gatN_wider h]
    exact (sortN_perm _).filter _
  rw [e]
  exact near_first (sortN_rises _ (gatN_nodup hn))
theorem nearC_wider {ck : Bool} {O : List Int} {s : Int} {ws : List ByteArray} {rad more : Int} (h : rad ≤ more) (h0 : nearC ck O s ws rad = 0) : nearC ck O s ws more = 0 := by
  unfold nearC at *
  by_cases h1 : levC ck O s ≠ 0
  · rw [if_pos h1] at h0; exact absurd h0 h1
  · rw [if_neg h1] at h0 ⊢
    by_cases h2 : ws.length = 0 ∨ rad < 0
    · rw [if_pos h2] at h0; exact absurd h0 (by decide)
    · rw [if_neg]
      rintro (h3 | h3)
      · exact h2 (.inl h3)
      · exact h2 (.inr (by omega))
theorem nearR_wider {ck : Bool} {O T R V : List Int} {s : Int} {L : List Po} {ws : List ByteArray} {rad more : Int} (h : rad ≤ more) (h0 : nearC ck O s ws rad = 0) : nearR ck O T R V s L ws rad = (nearR ck O T R V s L ws more).take (nearR ck O T R V s L ws rad).length := by
  unfold nearR
  rw [if_pos h0, if_pos (nearC_wider h h0)]
  exact sortN_wider (allX_nodup L ws) h
theorem take_le_of_eq {α : Type} {a b : List α} {n : Nat} (h : a = b.take n) (hn : n = a.length) : a.length ≤ b.length := by
  have := congrArg List.length h
  rw [List.length_take] at this
  omega
/-- with one more word: those of the places that have it -/
theorem allX_more {L : List Po} {ws : List ByteArray} {u : ByteArray} (h : 0 < ws.length) : allX L (ws ++ [u]) = (allX L ws).filter fun x => (findL L u).contains x := by
  have h2 : 0 < (ws ++ [u]).length := by simp
  rw [allX_1 L h, allX_1 L h2]
  refine rises_uniq stoI _ _ (allS_rises L _) (rises_filter _ (allS_rises L _)) fun x => ?_
  rw [allS_iff h2, List.mem_filter, allS_iff h]
  constructor
  · intro k
    exact ⟨fun v hv => k v (List.mem_append_left _ hv), by simpa using k u (by simp)⟩
  · rintro ⟨k1, k2⟩ v hv
    rcases List.mem_append.1 hv with hv | hv
    · exact k1 v hv
    · rw [List.mem_singleton] at hv; subst hv; simpa using k2
theorem sortN_sub {d : List Int} {rad : Int} {P : List Int} (p : Int → Bool) (hn : P.Nodup) : (sortN (gatN d rad (P.filter p))).Sublist (sortN (gatN d rad P)) := by
  have e : sortN (gatN d rad (P.filter p)) = (sortN (gatN d rad P)).filter fun x => p x.1 := by
    refine (sortN_uniq (gatN_nodup (hn.filter _)) (rises_filter _ (sortN_rises _ (gatN_nodup hn))) ?_).symm
    have e2 : gatN d rad (P.filter p) = (gatN d rad P).filter fun x => p x.1 := by
      unfold gatN
      rw [List.filter_map, List.filter_filter, List.filter_filter]
      congr 1
      refine List.filter_congr fun v _ => ?_
      simp [hitN, Bool.and_comm]
    rw [e2]
    exact (sortN_perm _).filter _
  rw [e]
  exact List.filter_sublist
theorem nearR_more {ck : Bool} {O T R V : List Int} {s : Int} {L : List Po} {ws : List ByteArray} {u : ByteArray} {rad : Int} (h0 : nearC ck O s ws rad = 0) (h1 : nearC ck O s (ws ++ [u]) rad = 0) : (nearR ck O T R V s L (ws ++ [u]) rad).Sublist (nearR ck O T R V s L ws rad) := by
  have hw : 0 < ws.length := by
    unfold nearC at h0
    by_cases h2 : levC ck O s ≠ 0
    · rw [if_pos h2] at h0; exact absurd h0 h2
    · rw [if_neg h2] at h0
      by_cases h3 : ws.length = 0 ∨ rad < 0
      · rw [if_pos h3] at h0; exact absurd h0 (by decide)
      · omega
  unfold nearR
  rw [if_pos h0, if_pos h1, allX_more hw]
  exact sortN_sub _ (allX_nodup L ws)
end Go.Proofs.YtkekibnhmfmhmaaGreat
/- The law NearSound: the hits are sound and whole: each at its distance, in the radius and in the words' places, and no other such place is left. -/
namespace Go.Proofs.YtkekibnhmfmhmaaGreat
open Go Go.RowKit
/-- so many places below a bound are near enough and in a row -/
def cnS (d : Nat → Int) (rad : Int) (P : List Int) (v : Nat) : Nat := ((List.range v).filter fun u => distB (d u) && decide (distN (d u) ≤ rad) && inB P u).length
theorem cnS_succ (d : Nat → Int) (rad : Int) (P : List Int) (v : Nat) : cnS d rad P (v + 1) = cnS d rad P v + if (distB (d v) && decide (distN (d v) ≤ rad) && inB P v) = true then 1 else 0 := by
  unfold cnS
  rw [List.range_succ, List.filter_append, List.length_append]
  congr 1
  rw [List.filter_cons]
  split <;> rfl
theorem cnS_le (d : Nat → Int) (rad : Int) (P : List Int) (v : Nat) : cnS d rad P v ≤ v := by
  unfold cnS
  have := List.length_filter_le (fun u => distB (d u) && decide (distN (d u) ≤ rad) && inB P u) (List.range v)
  rw [List.length_range] at this
  exact this
theorem cnS_all {n : Nat} {d : Nat → Int} {rad : Int} {P : List Int} (hn : P.Nodup) : cnS d rad P n = (gatN ((List.range n).map d) rad P).length := by
  have key : ∀ u : Nat, u < n → nth ((List.range n).map d) u = d u := fun u hu => by
    rw [nth_eq (by rw [List.length_map, List.length_range]; exact hu), List.getElem_map, List.getElem_range]
  have h : (((List.range n).filter fun u => distB (d u) && decide (distN (d u) ≤ rad) && inB P u).map fun u : Nat => (u : Int)).Perm (P.filter (goodN ((List.range n).map d) rad)) := by
    rw [List.perm_ext_iff_of_nodup]
    · intro x
      simp only [List.mem_map, List.mem_filter, List.mem_range, goodN_iff, Bool.and_eq_true, decide_eq_true_eq, inB_iff, List.length_map, List.length_range]
      constructor
      · rintro ⟨u, ⟨hu, ⟨h1, h2⟩, h3⟩, rfl⟩
        have h0 : 0 ≤ d u := by simpa [distB] using h1
        have h4 : d u ≤ rad := by unfold distN at h2; rw [if_pos h0] at h2; exact h2
        exact ⟨h3, by omega, by omega, by rw [Int.toNat_natCast, key u hu]; exact h0, by rw [Int.toNat_natCast, key u hu]; exact h4⟩
      · rintro ⟨h1, h2, h3, h4, h5⟩
        obtain ⟨u, rfl⟩ := Int.eq_ofNat_of_zero_le h2
        have hu : u < n := by omega
        rw [Int.toNat_natCast, key u hu] at h4 h5
        exact ⟨u, ⟨hu, ⟨by simpa [distB] using h4, by unfold distN; rw [if_pos h4]; exact h5⟩, h1⟩, rfl⟩
    · exact List.Pairwise.map _ (fun a b hab e => hab (by omega)) (List.nodup_range.filter _)
    · exact hn.filter _
  unfold gatN cnS
  rw [List.length_map, ← h.length_eq, List.length_map]
theorem nearC_zero {ck : Bool} {O : List Int} {s : Int} {ws : List ByteArray} {rad : Int} (h : nearC ck O s ws rad = 0) : levC ck O s = 0 := by
  unfold nearC at h
  by_cases h1 : levC ck O s = 0
  · exact h1
  · rw [if_pos h1] at h; exact h
theorem levC_zero {ck : Bool} {O : List Int} {s : Int} (h : levC ck O s = 0) : ck = true ∧ ∃ n a : Nat, O.length = n + 1 ∧ s = a ∧ a < n := by
  unfold levC at h
  by_cases h1 : ck = true
  · rw [if_pos h1] at h
    by_cases h2 : 0 ≤ s ∧ s < (O.length : Int) - 1
    · obtain ⟨a, rfl⟩ := Int.eq_ofNat_of_zero_le h2.1
      exact ⟨h1, O.length - 1, a, by omega, rfl, by omega⟩
    · rw [if_neg h2] at h; exact absurd h (by decide)
  · rw [if_neg h1] at h; exact absurd h (by decide)
/-- what the hits are -/
theorem near_sound {O T R V : List Int} {L : List Po} {ws : List ByteArray} {rad : Int} {n a : Nat} (hno : O.length = n + 1) (h0 : nearC (checkR O T R V) O a ws rad = 0) :
    cnS (lev (rowL O T) n a) rad (allX L ws) n = (nearR (checkR O T R V) O T R V a L ws rad).length ∧
    (∀ i, i < (nearR (checkR O T R V) O T R V a L ws rad).length → ∃ v : Nat, v < n ∧ (nth (nearR (checkR O T R V) O T R V a L ws rad) i).1 = v ∧ (nth (nearR (checkR O T R V) O T R V a L ws rad) i).2 = lev (rowL O T) n a v ∧ 0 ≤ lev (rowL O T) n a v ∧ lev (rowL O T) n a v ≤ rad ∧ inB (allX L ws) v = true) ∧
    (∀ i, i + 1 < (nearR (checkR O T R V) O T R V a L ws rad).length → ltN (nth (nearR (checkR O T R V) O T R V a L ws rad) i) (nth (nearR (checkR O T R V) O T R V a L ws rad) (i + 1)) = true) := by
  have hr : nearR (checkR O T R V) O T R V a L ws rad = sortN (gatN ((List.range n).map fun v => lev (rowL O T) n a v) rad (allX L ws)) := by
    unfold nearR
    rw [if_pos h0]
    unfold levR
    rw [if_pos (nearC_zero h0), hno]
    rfl
  rw [hr]
  have hnd := allX_nodup L ws
  refine ⟨by rw [sortN_len]; exact cnS_all hnd, fun i hi => ?_, fun i hi => ?_⟩
  · have hm := nth_mem (l := sortN (gatN ((List.range n).map fun v => lev (rowL O T) n a v) rad (allX L ws))) hi
    rw [(sortN_perm _).mem_iff, gatN_mem] at hm
    obtain ⟨v, hv, hg, e⟩ := hm
    rw [e]
    rw [goodN_iff, List.length_map, List.length_range] at hg
    obtain ⟨g1, g2, g3, g4⟩ := hg
    obtain ⟨u, rfl⟩ := Int.eq_ofNat_of_zero_le g1
    have hu : u < n := by omega
    have key : nth ((List.range n).map fun v => lev (rowL O T) n a v) u = lev (rowL O T) n a u := by
      rw [nth_eq (by rw [List.length_map, List.length_range]; exact hu), List.getElem_map, List.getElem_range]
    rw [Int.toNat_natCast, key] at g3 g4
    exact ⟨u, hu, rfl, by show nth _ (Int.toNat (u : Int)) = _; rw [Int.toNat_natCast, key], g3, g4, (inB_iff _ _).2 hv⟩
  · have hs := sortN_rises _ (gatN_nodup (d := (List.range n).map fun v => lev (rowL O T) n a v) (rad := rad) hnd)
    rw [nth_eq hi, nth_eq (by omega)]
    exact List.pairwise_iff_getElem.1 hs i (i + 1) (by omega) hi (by omega)
theorem In05E (p : Option Addr) (n c : Nat) (l : List Int) (x : Int) (w : World) (hl : Rd w 1 p n (encI l)) :
    Calls Tryz.prog 42 #[.slice p n c, .int .i64 x] w fun e w' => e = .returned (.bool (inB l x)) ∧ Ext w w' :=
  (In05 p n c l x w hl).mono fun e w' ⟨h3, h4⟩ => ⟨h3, by subst h4; exact Below.refl _ _⟩
set_option maxRecDepth 100000 in
set_option maxHeartbeats 8000000 in
theorem lawSound9 (po : Option Addr) (no co : Nat) (O : List Int) (pt : Option Addr) (nt ct : Nat) (T : List Int) (pr : Option Addr) (nr cr : Nat) (R : List Int) (pv : Option Addr) (nv cv : Nat) (V : List Int) (pp : Option Addr) (np cp : Nat) (hs : List Hd) (L : List Po) (pw : Option Addr) (nw cw : Nat) (ws : List ByteArray) (s rad : Int) (w : World) (hO : Rd w 1 po no (encI O)) (hT : Rd w 1 pt nt (encI T)) (hR : Rd w 1 pr nr (encI R)) (hV : Rd w 1 pv nv (encI V)) (hct : nt ≤ ct) (hcv : nv ≤ cv) (hL : RdP w pp np hs L) (hI : ∀ q ∈ L, ∀ x ∈ q.2, I64 x) (hW : Rd w 1 pw nw (encS ws)) (hcw : nw ≤ cw) :
    Calls Tryz.prog 9 #[.agg #[.slice po no co, .slice pt nt ct, .slice pr nr cr, .slice pv nv cv], .slice pp np cp, .int .i64 s, .slice pw nw cw, .int .i64 rad] w fun e w' => e = .returned (.bool true) ∧ Ext w w' := by
  have HFar := Lib.hid (fun W (h : Ext w W) => FarG po no co O pt nt ct T pr nr cr R pv nv cv V pp np cp hs L pw nw cw ws W (hO.ext h) (hT.ext h) (hR.ext h) (hV.ext h) (hL.ext h) (hW.ext h))
  have S0 := Lib.hid ((Sep.start w).al #[.slice po no co, .slice pt nt ct, .slice pr nr cr, .slice pv nv cv] 41 w.heap.size rfl)
  cases hf : farB O T R V L ws with
  | true =>
    rw [hf] at HFar
    clear hO hT hR hV hct hcv hL hI hW hcw hf
    go_enter Tryz.func9, Tryz.ntmps9
    go_wp2_with (go_at_call 27; go_must (refine (HFar.out _ S0.out.ext).mono ?_; rintro e w1 ⟨rfl, hb⟩; have S1 := Lib.hid (S0.out.call hb); have xz := (S1.out.blk 0 rfl).lt; have x0 := (S1.out.blk 0 rfl).cell 0; have x1 := (S1.out.blk 0 rfl).cell 1; have x2 := (S1.out.blk 0 rfl).cell 2; have x3 := (S1.out.blk 0 rfl).cell 3; clear hb))
    go_ret
    exact ⟨rfl, S1.out.ext⟩
  | false =>
    rw [hf] at HFar
    obtain ⟨f1, f2, f3, f4, f5, f6, f7, f8⟩ := far_facts hf hI
    have lW := hW.nS
    have lO := hO.nI
    have hbl : nw ≤ 12 := by omega
    have hno30 : no ≤ 30 := by omega
    have HHA := Lib.hid (fun W (h : Ext w W) => NHitsG po no co O pt nt ct T pr nr cr R pv nv cv V pp np cp hs L pw nw cw ws s rad W (hO.ext h) (hT.ext h) (hR.ext h) (hV.ext h) hct hcv (hL.ext h) f1 (hW.ext h) hcw (by omega))
    have HAL := Lib.hid (fun W (h : Ext w W) => AllGx pp np cp hs L pw nw cw ws W (hL.ext h) f1 (hW.ext h) hcw (by omega))
    have HLA := Lib.hid (nearR_len (ck := checkR O T R V) (O := O) (T := T) (R := R) (V := V) (s := s) (ws := ws) (rad := rad) f1)
    have HLP := Lib.hid (allX_len f1 ws)
    by_cases h1 : nearC (checkR O T R V) O s ws rad = 0
    · obtain ⟨hck, n, a, hno, rfl, han⟩ := levC_zero (nearC_zero h1)
      obtain ⟨k1, k2, k3⟩ := near_sound (L := L) hno h1
      have HDD := Lib.hid (fun v (hv : v < n) W (h : Ext w W) => DistG_yes po no co O pt nt ct T pr nr cr R pv nv cv V n a v W (hO.ext h) (hT.ext h) (hR.ext h) (hV.ext h) hct hcv hck hno han hv)
      have hnn : (no:Int) - 1 = n := by omega
      have hcx : codeX ws = 0 := by
        have : ws.length ≠ 0 := fun e => by
          unfold nearC at h1
          rw [if_neg (by rw [nearC_zero (show nearC (checkR O T R V) O a ws rad = 0 by unfold nearC; exact h1)]; decide), if_pos (.inl e)] at h1
          exact absurd h1 (by decide)
        exact codeX_1 (by omega)
      rw [hcx] at HAL
      rw [h1] at HHA
      have HK1 := Lib.hid k1
      have HK2 := Lib.hid k2
      have HK3 := Lib.hid k3
      clear hO hT hR hV hct hcv hL hI hW hcw hf f1 f2 f3 f4 f5 f6 f7 f8 lW lO hno han hck h1 k1 k2 k3 hcx
      generalize nearR (checkR O T R V) O T R V a L ws rad = A at *
      generalize allX L ws = P at *
      generalize lev (rowL O T) n a = D at *
      go_enter Tryz.func9, Tryz.ntmps9
      go_wp2_with (first | (go_at_call 40; have _t := S2; go_must (refine (HAL.out _ S2.out.ext).mono ?_; rintro e w3 ⟨q3, c3, rfl, Z⟩; have E3 := Lib.hid Z.ext; have RP := Lib.hid (Z.rd 0 rfl (by have := HLP.out; omega)); have S3 := Lib.hid (S2.out.call Z.ext); have yz := (S3.out.blk 0 rfl).lt; have y0 := (S3.out.blk 0 rfl).cell 0; have y1 := (S3.out.blk 0 rfl).cell 1; have y2 := (S3.out.blk 0 rfl).cell 2; have y3 := (S3.out.blk 0 rfl).cell 3; clear Z)) | (go_at_call 29; go_must (refine (HHA.out _ S1.out.ext).mono ?_; rintro e w2 ⟨q2, c2, rfl, Z⟩; have E2 := Lib.hid Z.ext; have RA := Lib.hid (Z.rd 0 rfl (by have := HLA.out; omega)); have S2 := Lib.hid (S1.out.call Z.ext); have bz := (S2.out.blk 0 rfl).lt; have b0 := (S2.out.blk 0 rfl).cell 0; have b1 := (S2.out.blk 0 rfl).cell 1; have b2 := (S2.out.blk 0 rfl).cell 2; have b3 := (S2.out.blk 0 rfl).cell 3; clear Z)) | (go_at_call 27; go_must (refine (HFar.out _ S0.out.ext).mono ?_; rintro e w1 ⟨rfl, hb⟩; have S1 := Lib.hid (S0.out.call hb); have xz := (S1.out.blk 0 rfl).lt; have x0 := (S1.out.blk 0 rfl).cell 0; have x1 := (S1.out.blk 0 rfl).cell 1; have x2 := (S1.out.blk 0 rfl).cell 2; have x3 := (S1.out.blk 0 rfl).cell 3; clear hb)))
      have HIN := Lib.hid (fun (v : Int) W (h : Ext w3 W) => In05E q3 _ c3 P v W (RP.out.ext h))
      have HDX := Lib.hid (fun v (hv : v < n) W (h : Ext w3 W) => HDD.out v hv W (Ext.trans S3.out.ext h))
      clear HDD HFar HHA HAL S0 S1 S2
      go_loopw [15, 16, 17, 18, 19] (fun v15 v16 _ _ _ wr => ∃ v : Nat, v ≤ n ∧ v15 = .int .i64 (cnS D rad P v : Nat) ∧ v16 = .int .i64 v ∧ Ext w3 wr) (fun _ v16 _ _ _ _ => n - (intOf v16).toNat)
      case atStart => exact ⟨0, Nat.zero_le _, rfl, rfl, Below.refl _ _⟩
      case round =>
        obtain ⟨v, hv, rfl, rfl, hE⟩ := hrel
        have S4 := Lib.hid (S3.out.call hE)
        have dz := (S4.out.blk 0 rfl).lt; have d0 := (S4.out.blk 0 rfl).cell 0; have d1 := (S4.out.blk 0 rfl).cell 1; have d2 := (S4.out.blk 0 rfl).cell 2; have d3 := (S4.out.blk 0 rfl).cell 3
        have hcl := cnS_le D rad P v
        by_cases hlt : v < n
        · have d1 : decide ((v:Int) < (no:Int) - 1) = true := by simp; omega
          have HX := Lib.hid (fun W (h : Ext w3 W) => HDX.out v hlt W h)
          have hst := cnS_succ D rad P v
          generalize D v = x at *
          obtain ⟨c', hc'⟩ : ∃ c', cnS D rad P (v + 1) = c' := ⟨_, rfl⟩
          rw [hc'] at hst
          have HC := Lib.hid hc'
          clear hc'
          generalize cnS D rad P v = c at *
          cases e1 : distB x with
          | false =>
            rw [e1] at HX hst
            simp only [Bool.false_and, Bool.false_eq_true, if_false, Nat.add_zero] at hst
            subst hst
            have HE := Lib.hid hE; clear hE
            generalize distN x = y at *
            go_wp2_with (go_at_call 41; go_must (refine (HX.out _ HE.out).mono ?_; rintro e wd ⟨rfl, hb⟩; have HE2 := Lib.hid (Ext.trans HE.out hb); clear hb))
            go_roundw
            case rel => exact ⟨v + 1, by omega, by rw [HC.out], by go_num, HE2.out⟩
            case measure => simp [intOf]; omega
          | true =>
            rw [e1] at HX hst
            generalize distN x = y at *
            cases e2 : decide (y ≤ rad) with
            | false =>
              rw [e2] at hst
              simp only [Bool.true_and, Bool.false_and, Bool.false_eq_true, if_false, Nat.add_zero] at hst
              subst hst
              have HE := Lib.hid hE; clear hE
              go_wp2_with (go_at_call 41; go_must (refine (HX.out _ HE.out).mono ?_; rintro e wd ⟨rfl, hb⟩; have HE2 := Lib.hid (Ext.trans HE.out hb); clear hb))
              go_roundw
              case rel => exact ⟨v + 1, by omega, by rw [HC.out], by go_num, HE2.out⟩
              case measure => simp [intOf]; omega
            | true =>
              rw [e2] at hst
              cases e3 : inB P v with
              | false =>
                rw [e3] at hst
                simp only [Bool.true_and, Bool.false_eq_true, if_false, Nat.add_zero] at hst
                subst hst
                have HE := Lib.hid hE; clear hE
                have HI := Lib.hid (fun W (h : Ext w3 W) => HIN.out v W h)
                rw [e3] at HI
                go_wp2_with (first | (go_at_call 42; go_must (refine (HI.out _ HE2.out).mono ?_; rintro e w9 ⟨rfl, hb9⟩; have HE3 := Lib.hid (Ext.trans HE2.out hb9); clear hb9)) | (go_at_call 41; go_must (refine (HX.out _ HE.out).mono ?_; rintro e wd ⟨rfl, hb⟩; have HE2 := Lib.hid (Ext.trans HE.out hb); clear hb)))
                go_roundw
                case rel => exact ⟨v + 1, by omega, by rw [HC.out], by go_num, HE3.out⟩
                case measure => simp [intOf]; omega
              | true =>
                rw [e3] at hst
                simp only [Bool.and_self, if_true] at hst
                subst hst
                have HE := Lib.hid hE; clear hE
                have HI := Lib.hid (fun W (h : Ext w3 W) => HIN.out v W h)
                rw [e3] at HI
                go_wp2_with (first | (go_at_call 42; go_must (refine (HI.out _ HE2.out).mono ?_; rintro e w9 ⟨rfl, hb9⟩; have HE3 := Lib.hid (Ext.trans HE2.out hb9); clear hb9)) | (go_at_call 41; go_must (refine (HX.out _ HE.out).mono ?_; rintro e wd ⟨rfl, hb⟩; have HE2 := Lib.hid (Ext.trans HE.out hb); clear hb)))
                go_roundw
                case rel => exact ⟨v + 1, by omega, by rw [HC.out]; go_num, by go_num, HE3.out⟩
                case measure => simp [intOf]; omega
        · have d1 : decide ((v:Int) < (no:Int) - 1) = false := by simp; omega
          have hvn : v = n := by omega
          subst hvn
          rw [HK1.out] at *
          have HE := Lib.hid hE; clear hE
          go_wp2
          go_loopw [20, 21, 22, 23] (fun v20 _ _ _ wx => ∃ i : Nat, i ≤ A.length ∧ v20 = .int .i64 i ∧ Ext w3 wx) (fun v20 _ _ _ _ => A.length - (intOf v20).toNat)
          case atStart => exact ⟨0, Nat.zero_le _, rfl, HE.out⟩
          case round =>
            clear HE S4
            obtain ⟨i, hi, rfl, hE⟩ := hrel
            have S4 := Lib.hid (S3.out.call hE)
            have dz := (S4.out.blk 0 rfl).lt; have d0 := (S4.out.blk 0 rfl).cell 0; have d1 := (S4.out.blk 0 rfl).cell 1; have d2 := (S4.out.blk 0 rfl).cell 2; have d3 := (S4.out.blk 0 rfl).cell 3
            by_cases hlt : i < A.length
            · have d2' : decide ((i:Int) < A.length) = true := by simpa using hlt
              have d3' : (0:Int) ≤ i := by omega
              have d4' : (i:Int) < A.length := by omega
              have ra := RA.out.ext (Ext.trans E3.out hE)
              have g1 := ra.cE hlt
              have g2 := ra.cE2 hlt
              have pa := ra.ptr
              obtain ⟨v, hv, m1, m2, m3, m4, m5⟩ := HK2.out i hlt
              rw [m1] at g1
              rw [m2] at g2
              have HX := Lib.hid (fun x : ExtOf wr => HDX.out v hv x.val (Ext.trans hE x.ext))
              have HIX := Lib.hid (fun W (h : Ext w3 W) => HIN.out v W h)
              rw [m5] at HIX
              have e1 : distN (D v) = D v := by unfold distN; rw [if_pos m3]
              have e2 : distB (D v) = true := by simpa [distB] using m3
              rw [e1, e2] at HX
              have f1 : (D v != D v) = false := by simp
              have f2 : decide (rad < D v) = false := by simp; omega
              by_cases hi0 : i = 0
              · subst hi0
                have HE := Lib.hid hE; clear hE
                clear ra
                generalize D v = x at *
                go_wp2
                have o0 := fun x : ExtOf wr => x.ext.cell d0
                have o1 := fun x : ExtOf wr => x.ext.cell d1
                have o2 := fun x : ExtOf wr => x.ext.cell d2
                have o3 := fun x : ExtOf wr => x.ext.cell d3
                have o4 := fun x : ExtOf wr => x.ext.cell g1
                have o5 := fun x : ExtOf wr => x.ext.cell g2
                refine wp_region_ext (by kernel_rfl) (by kernel_rfl) ?_
                repeat (go_big_quiet_step (((go_at_call 41; exact Calls.ext_of (HX.out _)))))
                refine wpQuiet_nil ?_
                rintro w8 ⟨⟨_, hb8⟩, rfl⟩
                have HE8 := Lib.hid (Ext.trans HE.out hb8)
                have g18 := hb8.cell g1
                have g28 := hb8.cell g2
                have HIY := Lib.hid (fun x : ExtOf w8 => HIX.out x.val (Ext.trans HE8.out x.ext))
                go_wp2
                have o6 := fun x : ExtOf w8 => x.ext.cell g18
                have o7 := fun x : ExtOf w8 => x.ext.cell g28
                refine wp_region_ext (by kernel_rfl) (by kernel_rfl) ?_
                repeat (go_big_quiet_step (((go_at_call 42; exact Calls.ext_of (HIY.out _)))))
                refine wpQuiet_nil ?_
                rintro w9 ⟨⟨_, hb9⟩, rfl⟩
                go_wp2
                go_roundw
                case rel => exact ⟨0 + 1, by omega, by go_num, Ext.trans HE8.out hb9⟩
                case measure => simp [intOf]; omega
              · obtain ⟨j, hj⟩ : ∃ j, i = j + 1 := ⟨i - 1, by omega⟩
                have q : (i:Int) - 1 = (j:Int) := by omega
                have d7 : decide ((0:Int) < (i:Int)) = true := by simp; omega
                have d8 : (0:Int) ≤ j := by omega
                have d9 : (j:Int) < A.length := by omega
                have d10 : 0 < i := by omega
                have d11 : (j:Int) ≤ 1000 := by have := HLA.out; omega
                have r1 := ra.cE (k := j) (by omega)
                have r2 := ra.cE2 (k := j) (by omega)
                have HAH := Lib.hid (fun W => Ahead09 (nth A j) (nth A i) W)
                rw [show ltN (nth A j) (nth A i) = true by rw [hj]; exact HK3.out j (by omega), m1, m2] at HAH
                generalize (nth A j).1 = y1 at *
                generalize (nth A j).2 = y2 at *
                clear hj hi0
                have HE := Lib.hid hE; clear hE
                clear ra
                generalize D v = x at *
                go_wp2
                have o0 := fun x : ExtOf wr => x.ext.cell d0
                have o1 := fun x : ExtOf wr => x.ext.cell d1
                have o2 := fun x : ExtOf wr => x.ext.cell d2
                have o3 := fun x : ExtOf wr => x.ext.cell d3
                have o4 := fun x : ExtOf wr => x.ext.cell g1
                have o5 := fun x : ExtOf wr => x.ext.cell g2
                refine wp_region_ext (by kernel_rfl) (by kernel_rfl) ?_
                repeat (go_big_quiet_step (((go_at_call 41; exact Calls.ext_of (HX.out _)))))
                refine wpQuiet_nil ?_
                rintro w8 ⟨⟨_, hb8⟩, rfl⟩
                have HE8 := Lib.hid (Ext.trans HE.out hb8)
                have g18 := hb8.cell g1
                have g28 := hb8.cell g2
                have HIY := Lib.hid (fun x : ExtOf w8 => HIX.out x.val (Ext.trans HE8.out x.ext))
                go_wp2
                have o6 := fun x : ExtOf w8 => x.ext.cell g18
                have o7 := fun x : ExtOf w8 => x.ext.cell g28
                have r18 := hb8.cell r1
                have r28 := hb8.cell r2
                have o8 := fun x : ExtOf w8 => x.ext.cell r18
                have o9 := fun x : ExtOf w8 => x.ext.cell r28
                refine wp_region_ext (by kernel_rfl) (by kernel_rfl) ?_
                repeat (go_big_quiet_step (((first | (go_at_call 42; exact Calls.ext_of (HIY.out _)) | (go_at_call 43; with_reducible exact Calls.ext_of (HAH.out _))))))
                refine wpQuiet_nil ?_
                rintro w9 ⟨⟨_, hb9⟩, rfl⟩
                go_wp2
                go_roundw
                case rel => exact ⟨i + 1, by omega, by go_num, Ext.trans HE8.out hb9⟩
                case measure => simp [intOf]; omega
            · have d2' : decide ((i:Int) < A.length) = false := by simpa using hlt
              have e8 : ((A.length : Int) == (A.length : Int)) = true := by simp
              have e8n : (A.length == A.length) = true := by simp
              have HE := Lib.hid hE; clear hE
              go_wp2_with (go_at_call 33; go_must (refine (Nears _).mono ?_; rintro e w9 ⟨rfl, hb9⟩; have S9 := Lib.hid (S4.out.call hb9); clear hb9))
              go_ret
              exact ⟨rfl, S9.out.ext⟩
    · have c1 : (nearC (checkR O T R V) O s ws rad != 0) = true := by simpa using h1
      have hA : nearR (checkR O T R V) O T R V s L ws rad = [] := by unfold nearR; rw [if_neg h1]
      rw [hA] at HHA HLA
      clear hO hT hR hV hct hcv hL hI hW hcw hf f1 f2 f3 f4 f5 f6 f7 f8 lW lO h1 hA
      generalize nearC (checkR O T R V) O s ws rad = nc at *
      generalize allX L ws = P at *
      go_enter Tryz.func9, Tryz.ntmps9
      go_wp2_with (first | (go_at_call 33; have _t := S3; go_must (refine (Nears _).mono ?_; rintro e w4 ⟨rfl, hb⟩; have S4 := Lib.hid (S3.out.call hb); clear hb)) | (go_at_call 40; have _t := S2; go_must (refine (HAL.out _ S2.out.ext).mono ?_; rintro e w3 ⟨q3, c3, rfl, Z⟩; have E3 := Lib.hid Z.ext; have RP := Lib.hid (Z.rd 0 rfl (by have := HLP.out; omega)); have S3 := Lib.hid (S2.out.call Z.ext); have yz := (S3.out.blk 0 rfl).lt; have y0 := (S3.out.blk 0 rfl).cell 0; have y1 := (S3.out.blk 0 rfl).cell 1; have y2 := (S3.out.blk 0 rfl).cell 2; have y3 := (S3.out.blk 0 rfl).cell 3; clear Z)) | (go_at_call 29; go_must (refine (HHA.out _ S1.out.ext).mono ?_; rintro e w2 ⟨q2, c2, rfl, Z⟩; have E2 := Lib.hid Z.ext; have RA := Lib.hid (Z.rd 0 rfl (by have := HLA.out; omega)); have S2 := Lib.hid (S1.out.call Z.ext); have bz := (S2.out.blk 0 rfl).lt; have b0 := (S2.out.blk 0 rfl).cell 0; have b1 := (S2.out.blk 0 rfl).cell 1; have b2 := (S2.out.blk 0 rfl).cell 2; have b3 := (S2.out.blk 0 rfl).cell 3; clear Z)) | (go_at_call 27; go_must (refine (HFar.out _ S0.out.ext).mono ?_; rintro e w1 ⟨rfl, hb⟩; have S1 := Lib.hid (S0.out.call hb); have xz := (S1.out.blk 0 rfl).lt; have x0 := (S1.out.blk 0 rfl).cell 0; have x1 := (S1.out.blk 0 rfl).cell 1; have x2 := (S1.out.blk 0 rfl).cell 2; have x3 := (S1.out.blk 0 rfl).cell 3; clear hb)))
      go_ret
      exact ⟨rfl, S4.out.ext⟩
end Go.Proofs.YtkekibnhmfmhmaaGreat
/- An argument that is a graph, opened: what its slices read. -/
namespace Go.Proofs.YtkekibnhmfmhmaaGreat
open Go Go.RowKit Go.ChangeShapes Go.WideShapes Go.ChangeAt Go.Deep Go.Joins
theorem exists_list {α : Type} [Inhabited α] {n : Nat} {p : Nat → α → Prop} (h : ∀ i, i < n → ∃ x, p i x) : ∃ l : List α, l.length = n ∧ ∀ i, i < n → p i (nth l i) := by
  induction n with
  | zero => exact ⟨[], rfl, fun i hi => by omega⟩
  | succ n ih =>
    obtain ⟨l, hl, hp⟩ := ih fun i hi => h i (by omega)
    obtain ⟨x, hx⟩ := h n (by omega)
    refine ⟨l ++ [x], by simp [hl], fun i hi => ?_⟩
    by_cases e : i = n
    · subst e
      have : nth (l ++ [x]) i = x := by subst hl; exact nth_append_new _ _
      rw [this]; exact hx
    · rw [nth_append_left _ _ _ (by omega)]; exact hp i (by omega)
theorem spot_of_cell {w : World} {a : Addr} {v : Value} (h : w.cell? a = some v) : a = ⟨a.block, a.off, none⟩ := by
  unfold World.cell? at h
  split at h
  · split at h
    · cases h
    · rename_i hs
      obtain ⟨b, o, s⟩ := a
      cases s with
      | none => rfl
      | some s => simp at hs
  · cases h
theorem Rd.of_cells {w : World} {size n : Nat} {a : Addr} {xs : List Value} (h0 : 0 < size) (hlen : xs.length = n * size) (hs : n ≤ 9223372036854775807) (hc : ∀ j, j < n * size → w.cell? (a.add j) = some (xs.getD j undef)) : Rd w size (some a) n xs := by
  rcases Nat.eq_zero_or_pos n with hn | hn
  · subst hn
    have : xs = [] := List.eq_nil_of_length_eq_zero (by simpa using hlen)
    subst this
    exact Rd.nil _ _ _
  · have h1 := hc 0 (Nat.mul_pos hn h0)
    have ha := spot_of_cell (a := a) (by simpa [Addr.add] using h1)
    refine ⟨hlen, .inr ⟨_, _, by rw [ha]⟩, hs, fun j hj => ?_⟩
    rw [← hc j hj]
    congr 1
    rw [ha, adr_some]
    by_cases hj0 : j = 0
    · subst hj0; simp [Addr.add]
    · simp [Addr.add, hj0]
section
variable {H : Type} {enc : TypeId × Value → H} {w : World} {base : Nat} {spare : Nat → Bool} {held : Bool}
theorem open_slice_fields {P : Program} {t e : TypeId} {fs : Array Field} {fuel : Nat} {cs : List Value} {x : DataW H × List MemPlace} (ht : P.underlying t = some (.slice e)) (he : P.underlying e = some (.struct fs))
    (hone : oneCellFields P fs = true) (hC : P.cellsOf e = fs.size) (h : DataW.trod enc P w base spare held fuel t cs = some x) :
    (cs = [.slice none 0 0]) ∨
    ∃ (a : Addr) (len cap : Nat), cs = [.slice (some a) len cap] ∧ len ≤ cap ∧ cap ≤ maxLen ∧
      ∀ i, i < len → ∀ (j : Nat) (f : Field), fs[j]? = some f → ∃ (v : Value) (y : DataW H × List MemPlace) (n : Nat), w.cell? (a.add (i * fs.size + j)) = some v ∧ DataW.trod enc P w base spare held n f.type [v] = some y := by
  rcases open_slice ht h with h0 | ⟨a, len, cap, m, n, D, Pl, hcs, hb, hl, hm, hmm, hx, hi⟩
  · exact .inl h0.1
  · refine .inr ⟨a, len, cap, hcs, hl, hm, fun i hil j f hj => ?_⟩
    obtain ⟨cs', hc, ht'⟩ := hi i (by rw [hmm]; split <;> omega)
    rw [hC] at hc
    obtain ⟨ys, n', hn', hy, hlen, hyl, hf⟩ := DataW.trod_struct he ht'
    obtain ⟨_, hcl, hat⟩ := World.cells?_some hc
    obtain ⟨ho, hk⟩ := hone_of hone j f hj
    have hjl : j < fs.size := (Array.getElem?_eq_some_iff.1 hj).1
    have hcell := hat j hjl
    have hv : cs'[j]? = some (cs'[j]'(by omega)) := List.getElem?_eq_getElem (by omega)
    have h1 := hf j f hj
    rw [ho, hk] at h1
    have hone' : (cs'.drop j).take 1 = [cs'[j]'(by omega)] := by
      rw [List.drop_eq_getElem_cons (by omega)]
      rfl
    rw [hone'] at h1
    have hys : ys[j]? = some (ys[j]'(by omega)) := List.getElem?_eq_getElem (by omega)
    refine ⟨_, _, _, ?_, h1.trans hys⟩
    rw [← Go.Deep.add_add, hcell, hv]
theorem open_edges {t : TypeId} {fuel : Nat} {v : Value} {x : DataW H × List MemPlace} (ht : Tryz.prog.underlying t = some (.slice 108)) (h : DataW.trod enc Tryz.prog w base spare held fuel t [v] = some x) :
    ∃ p n c E, v = .slice p n c ∧ Rd w 2 p n (encE E) := by
  rcases open_slice_fields ht Tryz.underlying108 (by kernel_rfl) (by kernel_rfl) h with h0 | ⟨a, len, cap, hcs, hl, hm, hi⟩
  · simp at h0; exact ⟨none, 0, 0, [], h0, Rd.nil _ _ _⟩
  · simp at hcs
    have hl2 : len ≤ 9223372036854775807 := by unfold maxLen at hm; omega
    have hE : ∀ i, i < len → ∃ e : Int × Int, w.cell? (a.add (i * 2)) = some (.int .i64 e.1) ∧ w.cell? (a.add (i * 2 + 1)) = some (.int .i64 e.2) := by
      intro i hil
      obtain ⟨v1, y1, n1, c1, t1⟩ := hi i hil 0 _ rfl
      obtain ⟨v2, y2, n2, c2, t2⟩ := hi i hil 1 _ rfl
      obtain ⟨k1, e1, _⟩ := DataW.trod_int Tryz.underlying3 t1
      obtain ⟨k2, e2, _⟩ := DataW.trod_int Tryz.underlying3 t2
      simp at e1 e2
      subst e1 e2
      exact ⟨(k1, k2), c1, c2⟩
    obtain ⟨E, hEl, hEc⟩ := exists_list hE
    refine ⟨some a, len, cap, E, hcs, Rd.of_cells (by decide) (by rw [encE_len, hEl]) hl2 fun j hj => ?_⟩
    have hd : j / 2 < len := by omega
    obtain ⟨g1, g2⟩ := encE_get E (j / 2) (by omega)
    obtain ⟨h1, h2⟩ := hEc (j / 2) hd
    have hm2 : j = j / 2 * 2 ∨ j = j / 2 * 2 + 1 := by omega
    rcases hm2 with e | e
    · rw [e, g1]; exact h1
    · rw [e, g2]; exact h2
theorem open_texts {t : TypeId} {fuel : Nat} {v : Value} {x : DataW H × List MemPlace} (ht : Tryz.prog.underlying t = some (.slice 9)) (h : DataW.trod enc Tryz.prog w base spare held fuel t [v] = some x) :
    ∃ p n c l, v = .slice p n c ∧ Rd w 1 p n (encS l) := by
  rcases open_slice ht h with h0 | ⟨a, len, cap, m, n, D, Pl, hcs, hb, hl, hm, hmm, hx, hi⟩
  · obtain ⟨h0, _⟩ := h0; simp at h0; exact ⟨none, 0, 0, [], h0, Rd.nil _ _ _⟩
  · simp at hcs
    have hl2 : len ≤ 9223372036854775807 := by unfold maxLen at hm; omega
    have hc1 : Tryz.prog.cellsOf 9 = 1 := by kernel_rfl
    rw [hc1] at hi
    have hS : ∀ i, i < len → ∃ s : ByteArray, w.cell? (a.add i) = some (.string s) := by
      intro i hil
      obtain ⟨cs', hc, ht'⟩ := hi i (by rw [hmm]; split <;> omega)
      obtain ⟨s, e1, _⟩ := DataW.trod_string Tryz.underlying9 ht'
      obtain ⟨_, hcl, hat⟩ := World.cells?_some hc
      have := hat 0 (by decide)
      rw [Go.Deep.add_add, Nat.mul_one, Nat.add_zero, e1] at this
      exact ⟨s, this⟩
    obtain ⟨l, hll, hlc⟩ := exists_list hS
    refine ⟨some a, len, cap, l, hcs, Rd.of_cells (by decide) (by rw [encS_len, hll, Nat.mul_one]) hl2 fun j hj => ?_⟩
    rw [encS_get l j (by omega)]
    exact hlc j (by omega)
theorem open_rows {t : TypeId} {fuel : Nat} {v : Value} {x : DataW H × List MemPlace} (ht : Tryz.prog.underlying t = some (.slice 22)) (h : DataW.trod enc Tryz.prog w base spare held fuel t [v] = some x) :
    ∃ p n c hs W, v = .slice p n c ∧ RdW w p n hs W := by
  rcases open_slice ht h with h0 | ⟨a, len, cap, m, n, D, Pl, hcs, hb, hl, hm, hmm, hx, hi⟩
  · obtain ⟨h0, _⟩ := h0; simp at h0; exact ⟨none, 0, 0, [], [], h0, rfl, Rd.nil _ _ _, fun j hj => by omega⟩
  · simp at hcs
    have hl2 : len ≤ 9223372036854775807 := by unfold maxLen at hm; omega
    have hc1 : Tryz.prog.cellsOf 22 = 1 := by kernel_rfl
    rw [hc1] at hi
    have hS : ∀ i, i < len → ∃ q : Hd × List ByteArray, w.cell? (a.add i) = some (.slice q.1.p q.1.n q.1.c) ∧ Rd w 1 q.1.p q.1.n (encS q.2) := by
      intro i hil
      obtain ⟨cs', hc, ht'⟩ := hi i (by rw [hmm]; split <;> omega)
      obtain ⟨_, hcl, hat⟩ := World.cells?_some hc
      match cs', hcl with
      | [u], _ =>
        obtain ⟨p, n', c', l, e1, hr⟩ := open_texts Tryz.underlying22 ht'
        have := hat 0 (by decide)
        rw [Go.Deep.add_add, Nat.mul_one, Nat.add_zero, e1] at this
        exact ⟨(⟨p, n', c'⟩, l), this, hr⟩
    obtain ⟨l, hll, hlc⟩ := exists_list hS
    have hm : ∀ i, i < len → nth (l.map (·.1)) i = (nth l i).1 ∧ nth (l.map (·.2)) i = (nth l i).2 := fun i hil => by
      rw [nth_eq (l := l.map (·.1)) (by rw [List.length_map]; omega), nth_eq (l := l.map (·.2)) (by rw [List.length_map]; omega), nth_eq (l := l) (by omega)]; simp
    refine ⟨some a, len, cap, l.map (·.1), l.map (·.2), hcs, by simp, Rd.of_cells (by decide) (by rw [encH_len, List.length_map, hll, Nat.mul_one]) hl2 fun j hj => ?_, fun j hj => ?_⟩
    · rw [encH_get _ j (by simp; omega), (hm j (by omega)).1]
      exact (hlc j (by omega)).1
    · rw [(hm j hj).1, (hm j hj).2]
      exact (hlc j hj).2
set_option maxRecDepth 100000 in
/-- a graph by value -/
theorem open_graph {r : Reach} {b0 : Nat} {v : Value} {d : DataW H} {p : List MemPlace} (hv : Value.okWide Tryz.prog w r b0 112 v) (h : DataW.Trod enc Tryz.prog w base spare held 112 v d p) :
    ∃ N pe ne ce pw nw cw E hs W, v = .agg #[.int .i64 N, .slice pe ne ce, .slice pw nw cw] ∧ Rd w 2 pe ne (encE E) ∧ RdW w pw nw hs W := by
  obtain ⟨v0, v1, v2, y0, y1, y2, n, rfl, _, _, t0, t1, t2⟩ := open_agg3 Tryz.underlying112 (by kernel_rfl) (by kernel_rfl) hv h
  obtain ⟨N, e0, _⟩ := DataW.trod_int Tryz.underlying3 t0
  simp at e0
  subst e0
  obtain ⟨pe, ne, ce, E, rfl, hE⟩ := open_edges Tryz.underlying109 t1
  obtain ⟨pw, nw, cw, hs, W, rfl, hW⟩ := open_rows Tryz.underlying110 t2
  exact ⟨N, pe, ne, ce, pw, nw, cw, E, hs, W, rfl, hE, hW⟩
end
end Go.Proofs.YtkekibnhmfmhmaaGreat
/- The last step of a law's row: the result is true, the arguments read as they did, where the call only made memory. -/
namespace Go.Proofs.YtkekibnhmfmhmaaGreat
open Go Go.RowKit Go.WideShapes Go.ChangeShapes
theorem own : ownKnob Tryz.prog.godebug = none := by kernel_rfl
theorem laidOut : laidOutB Tryz.prog = true := by kernel_rfl
set_option maxRecDepth 100000 in
/-- true comes back, the arguments stay: what is left to show is their reading -/
theorem law_post {H : Type} {enc : TypeId × Value → H} {f : Func} {s : ChangeSpec} {apart fresh handsOn again : Bool} {W W' : World} {args : Array Value} {ds : List (DataW H)} {before : List MemPlace}
    (hW : DataW.Whole enc Tryz.prog f.params.toList s.vars apart W args.toList ds [] before) (ht : f.resultTypes = #[4]) (hvars : s.vars = [])
    (hfn : s.fn H (ds ++ []) = { results := [.lit (.bool true)], args := ds })
    (hargs : ∀ sp : Nat → Bool, (∀ p ∈ before, sp p.block = true) → DataW.TrodAll enc Tryz.prog W' 0 sp true f.params.toList args.toList ds before)
    (hb : Below W.heap.size W W') : s.post enc Tryz.prog f apart fresh handsOn again W args (.bool true) W' := by
  have lits : ∀ (b : Nat) (sp : Nat → Bool) (hd : Bool), DataW.TrodAll enc Tryz.prog W' b sp hd f.resultTypes.toList ((Value.bool true).resultList f.resultTypes.size) (s.fn H (ds ++ [])).results [] := by
    intro b sp hd
    rw [hfn, ht]
    exact trodAll_mk1 (shut_bool Tryz.underlying4 true)
  have hold : ∀ sp : Nat → Bool, (∀ p ∈ before, sp p.block = true) → DataW.TrodAll enc Tryz.prog W' 0 sp true f.params.toList args.toList (s.fn H (ds ++ [])).args before := by
    intro sp hsp
    rw [hfn]; exact hargs sp hsp
  have hv : ∀ sp : Nat → Bool, DataW.TrodVars enc Tryz.prog W' sp s.vars (s.fn H (ds ++ [])).vars [] := by
    intro sp; rw [hfn, hvars]; rfl
  have hin : ∀ p ∈ before, p.block < W.heap.size := fun p hp => hW.lt p hp
  have same : before = before ++ [] := by simp
  refine ⟨ds, [], before, [], before, [], hW, lits _ _ _, hold _ (fun p hp => by simpa using hin p hp), hv _, World.keptBut_mono (fun p hp => ⟨hp, .inr (by simpa using hp)⟩) (hb.frame (· ∈ before)), fun _ => ?_⟩
  have hW2 := hW
  obtain ⟨_, _, _, _, _, hz, hn⟩ := hW2
  refine ⟨ok_one (by rw [ht]) rfl (okWide_bool_mk Tryz.underlying4 _), _, _, ([] ++ before) ++ [], ⟨[] ++ before, [], trodAll_append (hold _ (fun _ _ => rfl)) (lits _ _ _), hv _, rfl, ?_, ?_⟩, ?_⟩
  · intro b off hp
    have hp2 : MemPlace.cell b off ∈ before := by simpa using hp
    rw [hb.frozen (hin _ hp2)]
    exact hz b off hp2
  · intro ha
    simpa using hn ha
  · intro p hp _
    simpa using hp
/-- an argument's reading, carried behind the call -/
theorem stays {H : Type} {enc : TypeId × Value → H} {W W' : World} {t : TypeId} {v : Value} {d : DataW H} {ps : List MemPlace} (hr : Tryz.prog.readableRec t = true) (hrow : t < Tryz.prog.types.size) (h : DataW.Trod enc Tryz.prog W 0 (fun _ => true) true t v d ps)
    (hb : Below W.heap.size W W') (hlt : ∀ x ∈ ps, x.block < W.heap.size) {sp : Nat → Bool} (hsp : ∀ x ∈ ps, sp x.block = true) : DataW.Trod enc Tryz.prog W' 0 sp true t v d ps :=
  WideElems.Trod_stays laidOut hr hrow h (fun x hx => hb.same (hlt x hx)) hsp
/-- all readings, one by one -/
theorem trodAll_turn {H : Type} {enc : TypeId × Value → H} {P : Program} {W W' : World} {sp sp' : Nat → Bool} {hd : Bool} (ts : List TypeId) : ∀ {vs : List Value} {ds : List (DataW H)} {ps : List MemPlace}, DataW.TrodAll enc P W 0 sp hd ts vs ds ps →
    (∀ t ∈ ts, ∀ v d p, (∀ x ∈ p, x ∈ ps) → DataW.Trod enc P W 0 sp hd t v d p → DataW.Trod enc P W' 0 sp' hd t v d p) → DataW.TrodAll enc P W' 0 sp' hd ts vs ds ps := by
  induction ts with
  | nil =>
    intro vs ds ps h _
    obtain ⟨rfl, rfl, rfl⟩ := trodAll_nil h
    exact trodAll_mk0
  | cons t ts ih =>
    intro vs ds ps h hk
    obtain ⟨v, vs', d, ds', p, q, rfl, rfl, rfl, h1, h2⟩ := trodAll_cons h
    exact trodAll_cons_mk (hk t (by simp) v d p (fun x hx => by simp [hx]) h1) (ih h2 fun t' ht' v' d' p' hp' h' => hk t' (by simp [ht']) v' d' p' (fun x hx => by simp [hp' x hx]) h')
/-- all arguments' reading, carried behind the call -/
theorem stays_all {H : Type} {enc : TypeId × Value → H} {W W' : World} {ts : List TypeId} {vs : List Value} {ds : List (DataW H)} {ps : List MemPlace} (hr : ts.all (fun t => Tryz.prog.readableRec t && decide (t < Tryz.prog.types.size)) = true)
    (h : DataW.TrodAll enc Tryz.prog W 0 (fun _ => true) true ts vs ds ps) (hb : Below W.heap.size W W') (hlt : ∀ x ∈ ps, x.block < W.heap.size) {sp : Nat → Bool} (hsp : ∀ x ∈ ps, sp x.block = true) : DataW.TrodAll enc Tryz.prog W' 0 sp true ts vs ds ps :=
  trodAll_turn ts h fun t ht v d p hp h1 => by
    have h2 := List.all_eq_true.1 hr t ht
    rw [Bool.and_eq_true, decide_eq_true_eq] at h2
    exact stays h2.1 h2.2 h1 hb (fun x hx => hlt x (hp x hx)) (fun x hx => hsp x (hp x hx))
end Go.Proofs.YtkekibnhmfmhmaaGreat
/- Arguments that are rows of numbers, of texts, of postings: what they read. -/
namespace Go.Proofs.YtkekibnhmfmhmaaGreat
open Go Go.RowKit Go.ChangeShapes Go.WideShapes Go.ChangeAt Go.Deep Go.Joins
section
variable {H : Type} {enc : TypeId × Value → H} {w : World} {base : Nat} {spare : Nat → Bool} {held : Bool}
theorem trod_ints {t : TypeId} {fuel : Nat} {v : Value} {x : DataW H × List MemPlace} (ht : Tryz.prog.underlying t = some (.slice 3)) (h : DataW.trod enc Tryz.prog w base spare held fuel t [v] = some x) :
    ∃ p n c l, v = .slice p n c ∧ n ≤ c ∧ Rd w 1 p n (encI l) ∧ ∀ x ∈ l, I64 x := by
  rcases open_slice ht h with h0 | ⟨a, len, cap, m, n, D, Pl, hcs, hb, hl, hm, hmm, hx, hi⟩
  · obtain ⟨h0, _⟩ := h0; simp at h0; exact ⟨none, 0, 0, [], h0, Nat.le_refl _, Rd.nil _ _ _, fun x hx => nomatch hx⟩
  · simp at hcs
    have hl2 : len ≤ 9223372036854775807 := by unfold maxLen at hm; omega
    have hc1 : Tryz.prog.cellsOf 3 = 1 := by kernel_rfl
    rw [hc1] at hi
    have hS : ∀ i, i < len → ∃ s : Int, w.cell? (a.add i) = some (.int .i64 s) ∧ I64 s := by
      intro i hil
      obtain ⟨cs', hc, ht'⟩ := hi i (by rw [hmm]; split <;> omega)
      obtain ⟨s, e1, _, hw⟩ := DataW.trod_int Tryz.underlying3 ht'
      obtain ⟨_, hcl, hat⟩ := World.cells?_some hc
      have := hat 0 (by decide)
      rw [Go.Deep.add_add, Nat.mul_one, Nat.add_zero, e1] at this
      exact ⟨s, this, hw⟩
    obtain ⟨l, hll, hlc⟩ := exists_list hS
    refine ⟨some a, len, cap, l, hcs, hl, Rd.of_cells (by decide) (by rw [encI_len, hll, Nat.mul_one]) hl2 fun j hj => ?_, fun x hx => ?_⟩
    · rw [encI_get l j (by omega)]
      exact (hlc j (by omega)).1
    · obtain ⟨j, hj, rfl⟩ := List.mem_iff_getElem.1 hx
      rw [← nth_eq hj]
      exact (hlc j (by omega)).2
theorem trod_texts {t : TypeId} {fuel : Nat} {v : Value} {x : DataW H × List MemPlace} (ht : Tryz.prog.underlying t = some (.slice 9)) (h : DataW.trod enc Tryz.prog w base spare held fuel t [v] = some x) :
    ∃ p n c l, v = .slice p n c ∧ n ≤ c ∧ Rd w 1 p n (encS l) := by
  obtain ⟨p, n, c, l, rfl, hr⟩ := open_texts ht h
  refine ⟨p, n, c, l, rfl, ?_, hr⟩
  rcases open_slice ht h with h0 | ⟨a, len, cap, m, n', D, Pl, hcs, hb, hl, _⟩
  · obtain ⟨h0, _⟩ := h0; simp at h0; omega
  · simp at hcs; omega
set_option maxRecDepth 100000 in
theorem trod_postings {t : TypeId} {fuel : Nat} {v : Value} {x : DataW H × List MemPlace} (ht : Tryz.prog.underlying t = some (.slice 98)) (h : DataW.trod enc Tryz.prog w base spare held fuel t [v] = some x) :
    ∃ p n c hs L, v = .slice p n c ∧ n ≤ c ∧ RdP w p n hs L ∧ ∀ q ∈ L, ∀ x ∈ q.2, I64 x := by
  rcases open_slice_fields ht Tryz.underlying98 (by kernel_rfl) (by kernel_rfl) h with h0 | ⟨a, len, cap, hcs, hl, hm, hi⟩
  · simp at h0; exact ⟨none, 0, 0, [], [], h0, Nat.le_refl _, ⟨rfl, .inl rfl, by omega, fun k hk => by omega, fun k hk => by omega, fun k hk => by omega⟩, fun q hq => nomatch hq⟩
  · simp at hcs
    have hl2 : len ≤ 9223372036854775807 := by unfold maxLen at hm; omega
    have hE : ∀ i, i < len → ∃ e : (ByteArray × List Int) × Hd, w.cell? (a.add (i * 2)) = some (.string e.1.1) ∧ w.cell? (a.add (i * 2 + 1)) = some (.slice e.2.p e.2.n e.2.c) ∧ Rd w 1 e.2.p e.2.n (encI e.1.2) ∧ ∀ x ∈ e.1.2, I64 x := by
      intro i hil
      obtain ⟨v1, y1, n1, c1, t1⟩ := hi i hil 0 _ rfl
      obtain ⟨v2, y2, n2, c2, t2⟩ := hi i hil 1 _ rfl
      obtain ⟨s, e1, _⟩ := DataW.trod_string Tryz.underlying9 t1
      obtain ⟨p, n', c', l, e2, _, hr, hI⟩ := trod_ints Tryz.underlying39 t2
      simp at e1
      subst e1 e2
      exact ⟨((s, l), ⟨p, n', c'⟩), c1, c2, hr, hI⟩
    obtain ⟨E, hEl, hEc⟩ := exists_list hE
    have hm : ∀ i, i < len → nth (E.map (·.1)) i = (nth E i).1 ∧ nth (E.map (·.2)) i = (nth E i).2 := fun i hil => by
      rw [nth_eq (l := E.map (·.1)) (by rw [List.length_map]; omega), nth_eq (l := E.map (·.2)) (by rw [List.length_map]; omega), nth_eq (l := E) (by omega)]; simp
    have hptr : SlP (some a) len := by
      rcases Nat.eq_zero_or_pos len with h0 | h0
      · exact .inl h0
      · have h1 := (hEc 0 h0).1
        exact .inr ⟨_, _, by rw [spot_of_cell (a := a) (by simpa [Addr.add] using h1)]⟩
    have hadr : ∀ i j, i < len → a.add (i * 2 + j) = adr (some a) (i * 2 + j) := by
      intro i j hil
      have h1 := (hEc 0 (by omega)).1
      have ha := spot_of_cell (a := a) (by simpa [Addr.add] using h1)
      generalize i * 2 + j = m
      rw [ha, adr_some]
      by_cases hj0 : m = 0
      · rw [hj0]; simp [Addr.add]
      · simp [Addr.add, hj0]
    refine ⟨some a, len, cap, E.map (·.2), E.map (·.1), hcs, hl, ⟨by simp [hEl], hptr, hl2, fun k hk => ?_, fun k hk => ?_, fun k hk => ?_⟩, fun q hq => ?_⟩
    · rw [(hm k hk).1, ← Nat.add_zero (k * 2), ← hadr k 0 hk]; exact (hEc k hk).1
    · rw [(hm k hk).2, ← hadr k 1 hk]; exact (hEc k hk).2.1
    · rw [(hm k hk).1, (hm k hk).2]; exact (hEc k hk).2.2.1
    · obtain ⟨e, he, rfl⟩ := List.mem_map.1 hq
      obtain ⟨j, hj, rfl⟩ := List.mem_iff_getElem.1 he
      rw [← nth_eq hj]
      exact (hEc j (by omega)).2.2.2
set_option maxRecDepth 100000 in
theorem open_top {t e : TypeId} {r : Reach} {b0 : Nat} {v : Value} {d : DataW H} {p : List MemPlace} (ht : Tryz.prog.underlying t = some (.slice e)) (hv : Value.okWide Tryz.prog w r b0 t v) (h : DataW.Trod enc Tryz.prog w base spare held t v d p) :
    ∃ fuel, DataW.trod enc Tryz.prog w base spare held fuel t [v] = some (d, p) := by
  obtain ⟨a, n, c, rfl⟩ := okWide_slice ht hv
  exact h
set_option maxRecDepth 100000 in
theorem open_introw {r : Reach} {b0 : Nat} {v : Value} {d : DataW H} {p : List MemPlace} (hv : Value.okWide Tryz.prog w r b0 39 v) (h : DataW.Trod enc Tryz.prog w base spare held 39 v d p) :
    ∃ p n c l, v = .slice p n c ∧ n ≤ c ∧ Rd w 1 p n (encI l) ∧ ∀ x ∈ l, I64 x := by
  obtain ⟨f, hf⟩ := open_top Tryz.underlying39 hv h
  exact trod_ints Tryz.underlying39 hf
set_option maxRecDepth 100000 in
theorem open_textrow {r : Reach} {b0 : Nat} {v : Value} {d : DataW H} {p : List MemPlace} (hv : Value.okWide Tryz.prog w r b0 22 v) (h : DataW.Trod enc Tryz.prog w base spare held 22 v d p) :
    ∃ p n c l, v = .slice p n c ∧ n ≤ c ∧ Rd w 1 p n (encS l) := by
  obtain ⟨f, hf⟩ := open_top Tryz.underlying22 hv h
  exact trod_texts Tryz.underlying22 hf
set_option maxRecDepth 100000 in
theorem open_postings {r : Reach} {b0 : Nat} {v : Value} {d : DataW H} {p : List MemPlace} (hv : Value.okWide Tryz.prog w r b0 25 v) (h : DataW.Trod enc Tryz.prog w base spare held 25 v d p) :
    ∃ p n c hs L, v = .slice p n c ∧ n ≤ c ∧ RdP w p n hs L ∧ ∀ q ∈ L, ∀ x ∈ q.2, I64 x := by
  obtain ⟨f, hf⟩ := open_top Tryz.underlying25 hv h
  exact trod_postings Tryz.underlying25 hf
end
end Go.Proofs.YtkekibnhmfmhmaaGreat
/- An argument that is rows, opened. -/
namespace Go.Proofs.YtkekibnhmfmhmaaGreat
open Go Go.RowKit Go.ChangeShapes Go.WideShapes Go.ChangeAt Go.Deep Go.Joins
section
variable {H : Type} {enc : TypeId × Value → H} {w : World} {base : Nat} {spare : Nat → Bool} {held : Bool}
set_option maxRecDepth 100000 in
theorem open_rowsarg {r : Reach} {b0 : Nat} {v : Value} {d : DataW H} {p : List MemPlace} (hv : Value.okWide Tryz.prog w r b0 41 v) (h : DataW.Trod enc Tryz.prog w base spare held 41 v d p) :
    ∃ po no co O pt nt ct T pr nr cr R pv nv cv V, v = .agg #[.slice po no co, .slice pt nt ct, .slice pr nr cr, .slice pv nv cv] ∧ Rd w 1 po no (encI O) ∧ Rd w 1 pt nt (encI T) ∧ Rd w 1 pr nr (encI R) ∧ Rd w 1 pv nv (encI V) ∧ no ≤ co ∧ nt ≤ ct ∧ nr ≤ cr ∧ nv ≤ cv := by
  obtain ⟨v0, v1, v2, v3, y0, y1, y2, y3, n, rfl, _, _, t0, t1, t2, t3⟩ := open_agg4 Tryz.underlying41 (by kernel_rfl) (by kernel_rfl) hv h
  obtain ⟨po, no, co, O, rfl, c0, h0, _⟩ := trod_ints Tryz.underlying39 t0
  obtain ⟨pt, nt, ct, T, rfl, c1, h1, _⟩ := trod_ints Tryz.underlying39 t1
  obtain ⟨pr, nr, cr, R, rfl, c2, h2, _⟩ := trod_ints Tryz.underlying39 t2
  obtain ⟨pv, nv, cv, V, rfl, c3, h3, _⟩ := trod_ints Tryz.underlying39 t3
  exact ⟨po, no, co, O, pt, nt, ct, T, pr, nr, cr, R, pv, nv, cv, V, rfl, h0, h1, h2, h3, c0, c1, c2, c3⟩
end
end Go.Proofs.YtkekibnhmfmhmaaGreat
