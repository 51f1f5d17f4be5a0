/- Texts of this claim, one behind the other: Laid4, G2, G9, G11, GT, Big2, G10, Mk4, PlainR2, PlainN, PlainBy, PlainHn, PlainNr, Hp1, Hp2, OwnSm, Hp3, HpM, Hp4, Hp5, Hp6, Hn1, Hn2, Hn3, HnM, Hn4, Hn5, Hn6, NewAt, Nr1, Dst8a, Lv7a, RngA, Eq4, Has4, PlainQ, PlainP9, Dst8b, Lv7b. -/
import Derived.OwnWalk
import Derived.Handy
import Derived.RangeFuncNested
import Derived.Test.YtkekibnhmfmhmaaGreatQNearSound2
/- The program's rows of a graph: laid. -/
namespace Go.Proofs.YtkekibnhmfmhmaaGreat
open Go Go.RowKit Go.Shelf Go.Lib
theorem encI_set (l : List Int) (k : Nat) (x : Int) : (encI l).set k (.int .i64 x) = encI (l.set k x) := by simp [encI, List.map_set]
theorem made_encI (n : Nat) : (madeCells (Value.int .i64 0).cells (n * 1)).toList = encI (List.replicate n 0) := by
  apply List.ext_getElem
  · simp [madeCells, encI]
  · intro i h1 h2
    simp [madeCells, encI, Value.cells, Nat.mod_one]
theorem cntL_nil (n : Nat) : cntL n [] = List.replicate (n + 1) 0 := by
  apply List.ext_getElem
  · simp [cntL]
  · intro i h1 h2
    simp [cntL]
theorem Rd.oneIat (w : World) (t : TypeId) (a : Int) (b : Nat) (h : w.heap.size = b) : Rd (w.alloc (.cells #[.int .i64 a] t)) 1 (some ⟨b, 0, none⟩) 1 (encI [a]) := by subst h; exact Rd.oneI w t a
/-- 'make' of a row, as a piece -/
theorem wpList_make_sep {P : Program} {w0 w : World} {Γ : List Pc} {ops : Array Oper} {rest : List Oper} {o : Oper} {a : Act} {Q : Exit → Act → World → Prop}
    (hg : o.guard = none) (l c : Operand) (t : TypeId) (hop : o.op = Op.makeSlice t l c)
    (e : TypeId) (i : TypeInfo) (z : Value) (size : Nat) (h1 : P.underlying t = some (.slice e)) (h2 : P.info? e = some i) (h3 : i.zero = some z) (h4 : i.size = size)
    (L : Int) (n : Nat) (hl : a.eval l = .int .i64 L) (hc : a.eval c = .int .i64 L) (hL : L = (n : Int)) (b2 : i.bytes * n ≤ 281474976710656) (b3 : n ≤ maxLen) (S : Sep w0 w Γ)
    (hK : ∀ w', Sep w0 w' (.own e size (some ⟨w.heap.size, 0, none⟩) n n (madeCells z.cells (n * size)).toList :: Γ) → wpList P ops Q rest (a.put o.dst (.slice (some ⟨w.heap.size, 0, none⟩) n n)) w') :
    wpList P ops Q (o :: rest) a w :=
  wpList_make_full w hg l c t hop w.heap.size e i z size h1 h2 h3 h4 .i64 .i64 L L n hl hc hL hL b2 b3 (Nat.le_refl _) fun w' ho hgr =>
    hK w' (S.fresh ⟨hgr.os, hgr.tape, hgr.output, hgr.size, fun k hk => hgr.block k hk (by simp)⟩ ho (Nat.le_refl _))
set_option maxRecDepth 100000 in
set_option maxHeartbeats 4000000 in
theorem laidG (n : Nat) (p : Option Addr) (m c : Nat) (E : List (Int × Int)) (w : World) (hE : Rd w 2 p m (encE E)) (hn : n ≤ 200) (hm : m ≤ 2000) (hb : ∀ x ∈ E, 0 ≤ x.1 ∧ x.1 < n) :
    Calls Tryz.prog 104 #[.int .i64 n, .slice p m c] w fun e w' => ∃ qo co qt ct, e = .returned (.tuple #[.slice qo (n + 1) co, .slice qt m ct]) ∧ Sep w w' [.own 3 1 qt m ct (encI (toL E)), .own 3 1 qo (n + 1) co (encI (offL n E))] := by
  obtain ⟨i0, hi0, hz0, hz1, hz2⟩ := info_parts infI
  have p1 := hE.ptr
  have L1 := Lib.hid hE.nE
  have HB := Lib.hid hb
  clear hb
  have HE := Lib.hid hE; clear hE
  go_enter Tryz.func104, Tryz.ntmps104
  go_wp2_with (at_make; go_must (refine wpList_make_sep rfl _ _ _ rfl 3 i0 _ 1 Tryz.underlying39 hi0 hz0 hz1 ((n:Int) + 1) (n + 1) rfl rfl (by omega) (by rw [hz2]; omega) (by unfold maxLen; omega) (Sep.start w) ?_; intro w1 S'; rw [made_encI, ← cntL_nil] at S'; have S1 := Lib.hid S'; clear S'))
  generalize hqo : (some ⟨w.heap.size, 0, none⟩ : Option Addr) = qo at *
  clear hqo
  go_loopw [5, 7, 14] (fun t _ i wr => ∃ (k : Nat) (q : Option Addr) (d : Nat), k ≤ m ∧ i = .int .i64 k ∧ t = .slice q k d ∧ Sep w wr [.own 3 1 q k d (encI (toL (E.take k))), .own 3 1 qo (n + 1) (n + 1) (encI (cntL n (E.take k)))]) (fun _ _ i _ => m - (intOf i).toNat)
  case atStart => exact ⟨0, none, 0, Nat.zero_le _, rfl, rfl, S1.out.nilrow _ _⟩
  case round =>
    clear S1
    obtain ⟨k, q, d, hk, rfl, rfl, S⟩ := hrel
    by_cases hlt : k < m
    · have hkE : k < E.length := by rw [← L1.out]; exact hlt
      have e1 := S.ext.cell (HE.out.cE hlt)
      have e2 := S.ext.cell (HE.out.cE2 hlt)
      obtain ⟨b1, b2⟩ := HB.out _ (nth_mem hkE)
      obtain ⟨f, hf⟩ : ∃ f : Nat, (nth E k).1 = (f : Int) := ⟨(nth E k).1.toNat, by omega⟩
      have HT : Hid (toL (E.take (k + 1)) = toL (E.take k) ++ [(nth E k).2]) := by unfold Hid toL; rw [map_take_succ _ E k hkE]
      have HC : Hid (cntL n (E.take (k + 1)) = (cntL n (E.take k)).set (f + 1) (nth (cntL n (E.take k)) (f + 1) + 1)) := by
        unfold Hid; rw [take_succ_nth E k hkE]; exact cntL_step _ _ hf (by omega)
      rw [hf] at e1 b1 b2
      have c1 := (S.rd 1 rfl (by omega)).cI (k := f + 1) (by omega)
      have po := (S.rd 1 rfl (by omega)).ptr
      have fz := own_frozen (S.own 1 rfl) (by omega) (f + 1)
      have zz : (adr qo (f + 1)).block < wr.heap.size := (S.blt 1 rfl (by omega)).2
      have y0 : adr qo (f + 1) ≠ ⟨wr.heap.size, 1, none⟩ := fun e => by
        have e2 : (adr qo (f + 1)).block = wr.heap.size := by rw [e]
        omega
      have y1 : (⟨wr.heap.size, 1, none⟩ : Addr) ≠ adr qo (f + 1) := fun e => y0 e.symm
      have d1 : (0:Int) ≤ k := by omega
      have d2 : (k:Int) < m := by omega
      have d3 : (0:Int) ≤ (f:Int) + 1 := by omega
      have d4 : (f:Int) + 1 < ((n + 1 : Nat) : Int) := by omega
      have hcb : nth (cntL n (E.take k)) (f + 1) ≤ 2000 ∧ 0 ≤ nth (cntL n (E.take k)) (f + 1) := by
        rw [cntL_nth _ (by omega)]
        have h1 := List.countP_le_length (p := fun x : Int × Int => decide (x.1 + 1 = ((f + 1 : Nat):Int))) (l := E.take k)
        rw [List.length_take] at h1
        omega
      obtain ⟨u, hu⟩ : ∃ u, nth (cntL n (E.take k)) (f + 1) = u := ⟨_, rfl⟩
      rw [hu] at c1 hcb HC
      have SH := Lib.hid S; clear S
      clear hf hu hkE
      have SX := Lib.hid ((SH.out.junk (.cells #[.int .i64 (f:Int), .int .i64 (nth E k).2] 108)).setRow 1 rfl (f + 1) (by omega) (.int .i64 (u + 1)))
      go_wp2_with (at_builtin; go_must (refine wpList_append_sep rfl _ _ _ rfl 3 i0 _ 1 8 Tryz.underlying39 hi0 hz0 hz1 hz2 rfl (by omega) (SX.out.junk _) 0 q k d _ rfl rfl _ 1 1 _ rfl (Rd.oneIat _ _ _ _ (by simp [World.setCell])) (one_encI _) (by omega) (by omega) ?_; intro q' d' w' S' hsz; have S5 := Lib.hid S'; clear S' hsz))
      go_roundw
      case rel => exact ⟨k + 1, q', d', by omega, by go_num, rfl, by rw [HT.out, HC.out, encI_append, ← encI_set]; exact S5.out⟩
      case measure => simp [intOf]; omega
    · obtain rfl : k = m := by omega
      have HT : Hid (E.take k = E) := by unfold Hid; rw [List.take_of_length_le (by rw [← L1.out]; omega)]
      rw [HT.out, ← sumL_zero (fun x hx => (HB.out x hx).1)] at S
      have SH := Lib.hid S; clear S
      go_wp2
      go_loopw [8, 33] (fun _ i wr => ∃ v : Nat, v ≤ n ∧ i = .int .i64 v ∧ Sep w wr [.own 3 1 q k d (encI (toL E)), .own 3 1 qo (n + 1) (n + 1) (encI (sumL n E v))]) (fun _ i _ => n - (intOf i).toNat)
      case atStart => exact ⟨0, Nat.zero_le _, rfl, SH.out⟩
      case round =>
        clear SH
        obtain ⟨v, hv, rfl, S⟩ := hrel
        by_cases hlv : v < n
        · have c0 := (S.rd 1 rfl (by omega)).cI (k := v) (by omega)
          have c1 := (S.rd 1 rfl (by omega)).cI (k := v + 1) (by omega)
          have po := (S.rd 1 rfl (by omega)).ptr
          have fz := own_frozen (S.own 1 rfl) (by omega) (v + 1)
          have HC := Lib.hid (sumL_step E hlv)
          have bnd : ∀ j, j < n + 1 → 0 ≤ nth (sumL n E v) j ∧ nth (sumL n E v) j ≤ 2000 := fun j hj => by
            rw [sumL_nth _ hj]
            have := L1.out
            split
            · have h1 := List.countP_le_length (p := fun x : Int × Int => decide (x.1 < (j:Int))) (l := E)
              omega
            · have h1 := List.countP_le_length (p := fun x : Int × Int => decide (x.1 + 1 = (j:Int))) (l := E)
              omega
          have bd0 := bnd v (by omega)
          have bd1 := bnd (v + 1) (by omega)
          generalize nth (sumL n E v) v = x0 at *
          generalize nth (sumL n E v) (v + 1) = x1 at *
          have d1 : (0:Int) ≤ v := by omega
          have d2 : (v:Int) < n := by omega
          have d3 : (0:Int) ≤ (v:Int) + 1 := by omega
          have d4 : (v:Int) + 1 < ((n + 1 : Nat) : Int) := by omega
          have d5 : (v:Int) < ((n + 1 : Nat) : Int) := by omega
          clear bnd
          have SH := Lib.hid S; clear S
          go_wp2
          have y0 := fun x : ExtOf wr => x.ext.cell c0
          have y1 := fun x : ExtOf wr => x.ext.cell c1
          refine wp_region_mix [true, true, true, true, true, true, true, true, true, true, true] (fun _ _ _ => True) (by kernel_rfl) (by kernel_rfl) (by kernel_rfl) (fun _ _ _ _ _ h => h) ?_
          simp only [nfM]
          repeat (go_big_quiet_step ((fail)))
          refine wpQuiet_nil ⟨trivial, fun vs W1 hE _ => ?_⟩
          have S2 := SH.out.call hE
          have po2 := (S2.rd 1 rfl (by omega)).ptr
          have fz2 := own_frozen (S2.own 1 rfl) (by omega) (v + 1)
          have k1 := hE.cell c1
          have S3 := Lib.hid (S2.setRow 1 rfl (v + 1) (by omega) (.int .i64 (x1 + x0)))
          clear S2 y0 y1 c0 c1 fz
          simp only [putM, List.length_cons, List.length_nil, Nat.zero_add, Nat.reduceAdd, List.drop_succ_cons, List.drop_zero]
          go_wp2
          go_roundw
          case rel => exact ⟨v + 1, by omega, by go_num, by rw [HC.out, ← encI_set]; exact S3.out⟩
          case measure => simp [intOf]; omega
        · obtain rfl : v = n := by omega
          rw [sumL_end] at S
          have SH := Lib.hid S; clear S
          go_wp2
          go_ret2
          exact ⟨qo, _, q, d, rfl, SH.out⟩
end Go.Proofs.YtkekibnhmfmhmaaGreat
namespace Go.Proofs.YtkekibnhmfmhmaaGreat
open Go Go.RowKit
set_option maxRecDepth 100000 in
set_option maxHeartbeats 1000000 in
theorem CheckG (N : Int) (pe : Option Addr) (ne ce : Nat) (pw : Option Addr) (nw cw : Nat) (E : List (Int × Int)) (hs : List Hd) (W : List (List ByteArray)) (w : World) (hE : Rd w 2 pe ne (encE E)) (hW : RdW w pw nw hs W) (hz : SzW W) :
    Calls Tryz.prog 134 #[.agg #[.int .i64 N, .slice pe ne ce, .slice pw nw cw]] w fun e w' => e = .returned (.bool (checkB N E W)) ∧ Ext w w' := by
  have p1 := hE.ptr
  have p2 := hW.row.ptr
  have n1 := hE.small
  have n2 := hW.row.small
  have l1 := hE.nE
  have l2 := hW.nW
  have HE := Lib.hid hE; clear hE
  have HW := Lib.hid hW; clear hW
  have HZ := Lib.hid hz; clear hz
  by_cases hpre : 1 ≤ N ∧ N ≤ 200 ∧ ne ≤ 2000 ∧ (nw : Int) = N
  · obtain ⟨c1, c2, c3, rfl⟩ := hpre
    have YES : ∀ (h5 : E.all (edgeOk nw) = true) (h6 : W.all rowOk = true), checkB nw E W = true := checkB_yes c1 c2 (by omega) (by omega)
    have L1 := Lib.hid l1; clear l1
    have L2 := Lib.hid l2; clear l2
    have HY := Lib.hid YES; clear YES
    have t1 : ((nw : Int) != (nw : Int)) = false := by simp
    go_enter Tryz.func134, Tryz.ntmps134
    go_wp2
    go_loopw [4, 32] (fun _ i wr => ∃ k : Nat, k ≤ ne ∧ i = .int .i64 k ∧ (E.take k).all (edgeOk nw) = true ∧ Ext w wr ∧ GBox wr w.heap.size (nw : Int) pe ne ce pw nw cw) (fun _ i _ => ne - (intOf i).toNat)
    case atStart => exact ⟨0, Nat.zero_le _, rfl, rfl, (Below.refl _ _).alloc (Nat.le_refl _) _, GBox.new _ _⟩
    case round =>
      obtain ⟨k, hk, rfl, ha, hb, gb1⟩ := hrel
      have HA := Lib.hid ha; clear ha
      have HB := Lib.hid hb; clear hb
      have G1 := Lib.hid gb1
      obtain ⟨b0, b1, b2⟩ := gb1
      have z0 : w.heap.size < wr.heap.size := World.block_lt_of_cell? wr _ b0
      by_cases hlt : k < ne
      · have g1 := HB.out.cell (HE.out.cE hlt)
        have g2 := HB.out.cell (HE.out.cE2 hlt)
        by_cases hok : 0 ≤ (nth E k).1 ∧ (nth E k).1 < nw ∧ 0 ≤ (nth E k).2 ∧ (nth E k).2 < nw
        · have HO : Hid (edgeOk nw (nth E k) = true) := by unfold Hid edgeOk; exact decide_eq_true hok
          obtain ⟨o1, o2, o3, o4⟩ := hok
          go_wp2_with (first | (go_at_call 152; have _t := F1; refine (isPlaceG _ _ _ _ _ _ _ _ _).mono ?_; rintro e w3 ⟨rfl, hb3⟩; have F2 := Lib.hid (Ext.trans F1.out hb3); clear hb3) | (go_at_call 152; refine (isPlaceG _ _ _ _ _ _ _ _ _).mono ?_; rintro e w2 ⟨rfl, hb2⟩; have F1 := Lib.hid (Ext.trans (Ext.alloc (Below.refl wr.heap.size wr) _) hb2); have b0' := Ext.cell F1.out b0; have b1' := Ext.cell F1.out b1; have b2' := Ext.cell F1.out b2; have x0 := Ext.cell hb2 (cellnew0 _ _ _ _); have x1 := Ext.cell hb2 (cellnew1 _ _ _ _ _); clear hb2))
          go_roundw
          case rel => exact ⟨k + 1, by omega, by go_num, all_step _ _ _ (by rw [← L1.out]; exact hlt) HA.out HO.out, Ext.trans HB.out F2.out, G1.out.ext F2.out⟩
          case measure => simp [intOf]; omega
        · have HO : Hid (edgeOk nw (nth E k) = false) := by unfold Hid edgeOk; exact decide_eq_false hok
          have HF := Lib.hid (checkB_E (W := W) (by rw [← L1.out]; exact hlt) HO.out)
          clear HO
          by_cases o1 : 0 ≤ (nth E k).1
          · by_cases o2 : (nth E k).1 < nw
            · by_cases o3 : 0 ≤ (nth E k).2
              · have o4 : (nw : Int) ≤ (nth E k).2 := Int.not_lt.1 fun h => hok ⟨o1, o2, o3, h⟩
                have o5 : decide ((nth E k).2 < (nw : Int)) = false := by simp; omega
                clear hok
                go_wp2_with (first | (go_at_call 152; have _t := F1; refine (isPlaceG _ _ _ _ _ _ _ _ _).mono ?_; rintro e w3 ⟨rfl, hb3⟩; have F2 := Lib.hid (Ext.trans F1.out hb3); clear hb3) | (go_at_call 152; refine (isPlaceG _ _ _ _ _ _ _ _ _).mono ?_; rintro e w2 ⟨rfl, hb2⟩; have F1 := Lib.hid (Ext.trans (Ext.alloc (Below.refl wr.heap.size wr) _) hb2); have b0' := Ext.cell F1.out b0; have b1' := Ext.cell F1.out b1; have b2' := Ext.cell F1.out b2; have x0 := Ext.cell hb2 (cellnew0 _ _ _ _); have x1 := Ext.cell hb2 (cellnew1 _ _ _ _ _); clear hb2))
                go_ret
                exact ⟨ret_bool HF.out.symm, Ext.trans HB.out F2.out⟩
              · have o5 : decide (0 ≤ (nth E k).2) = false := by simp; omega
                clear hok
                go_wp2_with (first | (go_at_call 152; have _t := F1; refine (isPlaceG _ _ _ _ _ _ _ _ _).mono ?_; rintro e w3 ⟨rfl, hb3⟩; have F2 := Lib.hid (Ext.trans F1.out hb3); clear hb3) | (go_at_call 152; refine (isPlaceG _ _ _ _ _ _ _ _ _).mono ?_; rintro e w2 ⟨rfl, hb2⟩; have F1 := Lib.hid (Ext.trans (Ext.alloc (Below.refl wr.heap.size wr) _) hb2); have b0' := Ext.cell F1.out b0; have b1' := Ext.cell F1.out b1; have b2' := Ext.cell F1.out b2; have x0 := Ext.cell hb2 (cellnew0 _ _ _ _); have x1 := Ext.cell hb2 (cellnew1 _ _ _ _ _); clear hb2))
                go_ret
                exact ⟨ret_bool HF.out.symm, Ext.trans HB.out F2.out⟩
            · have o5 : decide ((nth E k).1 < (nw : Int)) = false := by simp; omega
              clear hok
              go_wp2_with (first | (go_at_call 152; have _t := F1; refine (isPlaceG _ _ _ _ _ _ _ _ _).mono ?_; rintro e w3 ⟨rfl, hb3⟩; have F2 := Lib.hid (Ext.trans F1.out hb3); clear hb3) | (go_at_call 152; refine (isPlaceG _ _ _ _ _ _ _ _ _).mono ?_; rintro e w2 ⟨rfl, hb2⟩; have F1 := Lib.hid (Ext.trans (Ext.alloc (Below.refl wr.heap.size wr) _) hb2); have b0' := Ext.cell F1.out b0; have b1' := Ext.cell F1.out b1; have b2' := Ext.cell F1.out b2; have x0 := Ext.cell hb2 (cellnew0 _ _ _ _); have x1 := Ext.cell hb2 (cellnew1 _ _ _ _ _); clear hb2))
              go_ret
              exact ⟨ret_bool HF.out.symm, Ext.trans HB.out F1.out⟩
          · have o5 : decide (0 ≤ (nth E k).1) = false := by simp; omega
            clear hok
            go_wp2_with (first | (go_at_call 152; have _t := F1; refine (isPlaceG _ _ _ _ _ _ _ _ _).mono ?_; rintro e w3 ⟨rfl, hb3⟩; have F2 := Lib.hid (Ext.trans F1.out hb3); clear hb3) | (go_at_call 152; refine (isPlaceG _ _ _ _ _ _ _ _ _).mono ?_; rintro e w2 ⟨rfl, hb2⟩; have F1 := Lib.hid (Ext.trans (Ext.alloc (Below.refl wr.heap.size wr) _) hb2); have b0' := Ext.cell F1.out b0; have b1' := Ext.cell F1.out b1; have b2' := Ext.cell F1.out b2; have x0 := Ext.cell hb2 (cellnew0 _ _ _ _); have x1 := Ext.cell hb2 (cellnew1 _ _ _ _ _); clear hb2))
            go_ret
            exact ⟨ret_bool HF.out.symm, Ext.trans HB.out F1.out⟩
      · have HEE := Lib.hid (all_end _ _ _ (by rw [← L1.out]; exact hlt) HA.out)
        go_wp2
        clear hlt HA hk
        obtain ⟨wo, rfl⟩ : ∃ wo : World, wo = wr := ⟨_, rfl⟩
        go_loop [6, 52] (fun _ i => ∃ k : Nat, k ≤ nw ∧ i = .int .i64 k ∧ (W.take k).all rowOk = true) (fun _ i => nw - (intOf i).toNat)
        case atStart => exact ⟨0, Nat.zero_le _, rfl, rfl⟩
        case round =>
          obtain ⟨k, hk, rfl, ha⟩ := hrel
          have HA := Lib.hid ha; clear ha
          by_cases hlt : k < nw
          · have g1 := HB.out.cell (HW.out.row.cH hlt)
            have q1 := (HW.out.each k hlt).ext HB.out
            have l3 := q1.nS
            have Q1 := Lib.hid q1; clear q1
            have L3 := Lib.hid l3; clear l3
            have hsz := Lib.hid (HZ.out (nth W k) (by rw [nth_eq (by rw [← L2.out]; exact hlt)]; exact List.getElem_mem _))
            by_cases h8 : (nth hs k).n ≤ 8
            · by_cases hw : (nth W k).any (fun s => !wordB s) = true
              · have HF := Lib.hid (checkB_W (N := nw) (E := E) (k := k) (W := W) (by rw [← L2.out]; exact hlt) (by unfold rowOk; rw [show (nth W k).all wordB = false from by rw [← Bool.not_eq_true, List.all_eq_not_any_not, hw]; simp]; rfl))
                go_wp2_with (go_at_call 63; refine (ContainsWord _ _ _ _ _ Q1.out hsz.out).mono ?_; rintro e w' ⟨rfl, rfl⟩)
                go_ret
                exact ⟨ret_bool HF.out.symm, HB.out⟩
              · have hw' : (nth W k).any (fun s => !wordB s) = false := by simpa using hw
                have HW' := Lib.hid hw'
                clear hw
                go_wp2_with (go_at_call 63; refine (ContainsWord _ _ _ _ _ Q1.out hsz.out).mono ?_; rintro e w' ⟨rfl, rfl⟩)
                go_round
                case rel => exact ⟨k + 1, by omega, by go_num, all_step _ _ _ (by rw [← L2.out]; exact hlt) HA.out (by unfold rowOk; rw [List.all_eq_not_any_not, HW'.out, ← L3.out]; simp [h8])⟩
                case measure => simp [intOf]; omega
            · have HF := Lib.hid (checkB_W (N := nw) (E := E) (k := k) (W := W) (by rw [← L2.out]; exact hlt) (by unfold rowOk; rw [← L3.out]; simp [h8]))
              go_wp2
              go_ret
              exact ⟨ret_bool HF.out.symm, HB.out⟩
          · have HR := Lib.hid (all_end _ _ _ (by rw [← L2.out]; exact hlt) HA.out)
            go_wp2
            go_ret
            exact ⟨ret_bool (HY.out HEE.out HR.out).symm, HB.out⟩
  · have HF := Lib.hid (checkB_pre (N := N) (E := E) (W := W) (by rw [← l1, ← l2]; exact hpre))
    clear l1 l2 HE HW HZ p1 p2
    have h1 : ∀ o1 : Obj, Ext w (w.alloc o1) := fun o1 => (Below.refl _ _).alloc (Nat.le_refl _) _
    by_cases c1 : 1 ≤ N
    · by_cases c2 : N ≤ 200
      · by_cases c3 : ne ≤ 2000
        · have c4 : ((nw : Int) != N) = true := by rw [bne_iff_ne]; exact fun h => hpre ⟨c1, c2, c3, h⟩
          clear hpre
          go_enter Tryz.func134, Tryz.ntmps134
          go_wp2
          go_ret
          exact ⟨ret_bool HF.out.symm, h1 _⟩
        · clear hpre
          go_enter Tryz.func134, Tryz.ntmps134
          go_wp2
          go_ret
          exact ⟨ret_bool HF.out.symm, h1 _⟩
      · clear hpre
        go_enter Tryz.func134, Tryz.ntmps134
        go_wp2
        go_ret
        exact ⟨ret_bool HF.out.symm, h1 _⟩
    · clear hpre
      go_enter Tryz.func134, Tryz.ntmps134
      go_wp2
      go_ret
      exact ⟨ret_bool HF.out.symm, h1 _⟩
end Go.Proofs.YtkekibnhmfmhmaaGreat
/- The program's Normal: a graph in memory of its own. -/
namespace Go.Proofs.YtkekibnhmfmhmaaGreat
open Go Go.RowKit Go.Shelf Go.Lib Go.Sort
theorem allLt_zero {p : Nat → Prop} : ∀ i, i < 0 → p i := fun i h => absurd h (Nat.not_lt_zero i)
theorem allLt_succ {n : Nat} {p : Nat → Prop} (h : ∀ i, i < n → p i) (hn : p n) : ∀ i, i < n + 1 → p i := fun i hi => by
  rcases Nat.lt_or_ge i n with h1 | h1
  · exact h i h1
  · obtain rfl : i = n := by omega
    exact hn
/-- a graph in memory of the call's own -/
def GraphO (w : World) (base : Nat) (v : Value) (N : Int) (E : List (Int × Int)) (W : List (List ByteArray)) : Prop :=
  ∃ pe ce pw cw hs, v = .agg #[.int .i64 N, .slice pe E.length ce, .slice pw W.length cw] ∧ w.ownsRow base 108 2 (.slice pe E.length ce) E.length (encE E) ∧ OwnW w base pw W.length cw hs W
set_option maxRecDepth 100000 in
set_option maxHeartbeats 1000000 in
theorem NormalG_no (N : Int) (pe : Option Addr) (ne ce : Nat) (pw : Option Addr) (nw cw : Nat) (E : List (Int × Int)) (hs : List Hd) (W : List (List ByteArray)) (w : World) (hE : Rd w 2 pe ne (encE E)) (hW : RdW w pw nw hs W) (hz : SzW W) (hc : checkB N E W = false) :
    Calls Tryz.prog 139 #[.agg #[.int .i64 N, .slice pe ne ce, .slice pw nw cw]] w fun e w' => e = .returned (.tuple #[.agg #[.int .i64 0, .slice none 0 0, .slice none 0 0], .int .i64 20]) ∧ Ext w w' := by
  have HE := Lib.hid hE; clear hE
  have HW := Lib.hid hW; clear hW
  have HZ := Lib.hid hz; clear hz
  go_enter Tryz.func139, Tryz.ntmps139
  go_wp2_with (go_at_call 134; refine (CheckG _ _ _ _ _ _ _ E hs W _ (HE.out.ext (alloc2 w _ _).2.2) (HW.out.ext (alloc2 w _ _).2.2) HZ.out).mono ?_; rintro e w1 ⟨rfl, hb1⟩; have BR : Blk w1 (w.heap.size + 1) _ _ := (hb1.block _ (by simp)).trans (alloc2 w _ _).2.1; have r0 := BR.cell 0; have r1 := BR.cell 1; have r2 := BR.cell 2; have k0 := BR.frozen 0; have k1 := BR.frozen 1; have k2 := BR.frozen 2; have HB := Lib.hid (Ext.trans (alloc2 w _ _).2.2 hb1); have BR0 := Lib.hid BR; clear BR hb1)
  have B0 := BR0.out
  have B1 := B0.set_ 0 (.int .i64 0)
  have B2 := B1.set_ 1 (.slice none 0 0)
  have c0 := (B2.set_ 2 (.slice none 0 0)).cell 0
  have c1' := (B2.set_ 2 (.slice none 0 0)).cell 1
  have c2 := (B2.set_ 2 (.slice none 0 0)).cell 2
  refine bodyPost_ret (v := .tuple #[.agg #[.int .i64 0, .slice none 0 0, .slice none 0 0], .int .i64 20]) (by simp [results, Tryz.results139, go_sem, c0, c1', c2, Tryz.sizeOf112, Tryz.isAgg112]) rfl ⟨rfl, ?_⟩
  exact ((HB.out.setCell (by simp) _).setCell (by simp) _).setCell (by simp) _
/-- what the operations of the first composite tell -/
def R3 (b : Nat) (wz N : Nat) (pe : Option Addr) (ne ce : Nat) (D : List (Int × Int)) (i : Nat) (v : Value) (W : World) : Prop :=
  match i with
  | 0 => v = .pointer (some ⟨b, 0, none⟩)
  | 1 => v = .int .i64 N
  | 2 => v = .pointer (some ⟨b, 1, none⟩)
  | 3 => v = .slice pe ne ce
  | 4 => v = .agg #[.func (.func 154) #[] #[]]
  | 5 => ∃ q c, v = .slice q D.length c ∧ W.ownsRow wz 108 2 (.slice q D.length c) D.length (encE D)
  | 6 => ∃ q c, v = .agg #[.int .i64 N, .slice q D.length c, .slice none 0 0] ∧ W.ownsRow wz 108 2 (.slice q D.length c) D.length (encE D)
  | 7 => ∃ g, v = .pointer (some ⟨g, 0, none⟩) ∧ wz ≤ g ∧ Blk W g 112 #[.int .i64 0, .slice none 0 0, .slice none 0 0]
  | _ => True
theorem R3_mono {b wz N : Nat} {pe : Option Addr} {ne ce : Nat} {D : List (Int × Int)} : ∀ i v W W', Ext W W' → R3 b wz N pe ne ce D i v W → R3 b wz N pe ne ce D i v W' := by
  intro i v W W' he h
  match i with
  | 0 => exact h
  | 1 => exact h
  | 2 => exact h
  | 3 => exact h
  | 4 => exact h
  | 5 => obtain ⟨q, c, h1, h2⟩ := h; exact ⟨q, c, h1, he.own h2⟩
  | 6 => obtain ⟨q, c, h1, h2⟩ := h; exact ⟨q, c, h1, he.own h2⟩
  | 7 => obtain ⟨g, h1, h2, h3⟩ := h; exact ⟨g, h1, h2, h3.ext he⟩
  | _ + 8 => trivial
/-- what the operations of the loop's append tell -/
def R7 (wz g : Nat) (qh : Option Addr) (j ch : Nat) (pl : Option Addr) (nl cl : Nat) (D : List ByteArray) (i : Nat) (v : Value) (W : World) : Prop :=
  match i with
  | 0 => v = .pointer (some ⟨g, 2, none⟩)
  | 1 => v = .slice qh j ch
  | 2 => v = .slice pl nl cl
  | 3 => v = .agg #[.func (.func 151) #[] #[]]
  | 4 => ∃ q c, v = .slice q D.length c ∧ W.ownsRow wz 9 1 (.slice q D.length c) D.length (encS D)
  | 5 => ∃ q c a, v = .slice a 1 1 ∧ Rd W 1 a 1 [.slice q D.length c] ∧ W.ownsRow wz 9 1 (.slice q D.length c) D.length (encS D)
  | _ => True
theorem R7_mono {wz g : Nat} {qh : Option Addr} {j ch : Nat} {pl : Option Addr} {nl cl : Nat} {D : List ByteArray} : ∀ i v W W', Ext W W' → R7 wz g qh j ch pl nl cl D i v W → R7 wz g qh j ch pl nl cl D i v W' := by
  intro i v W W' he h
  match i with
  | 0 => exact h
  | 1 => exact h
  | 2 => exact h
  | 3 => exact h
  | 4 => obtain ⟨q, c, h1, h2⟩ := h; exact ⟨q, c, h1, he.own h2⟩
  | 5 => obtain ⟨q, c, a, h1, h2, h3⟩ := h; exact ⟨q, c, a, h1, h2.ext he, he.own h3⟩
  | _ + 6 => trivial
set_option maxRecDepth 100000 in
set_option maxHeartbeats 2000000 in
theorem NormalG_yes (N : Int) (pe : Option Addr) (ne ce : Nat) (pw : Option Addr) (nw cw : Nat) (E : List (Int × Int)) (hs : List Hd) (W : List (List ByteArray)) (w : World) (hE : Rd w 2 pe ne (encE E)) (hW : RdW w pw nw hs W) (hz : SzW W) (hc : checkB N E W = true) :
    Calls Tryz.prog 139 #[.agg #[.int .i64 N, .slice pe ne ce, .slice pw nw cw]] w fun e w' => ∃ v, e = .returned (.tuple #[v, .int .i64 0]) ∧ GraphO w' w.heap.size v N (dedup (sortBy lessE E)) (W.map fun l => dedup (sortBy sLess l)) ∧ Ext w w' := by
  obtain ⟨j0, hj0, hy0, hy1, hy2⟩ := info_parts inf35
  obtain ⟨_, hN, hE2, hWN, _, hW8⟩ := checkB_parts hc
  have hW9 := rowOk_len hW8
  have p1 := hE.ptr
  have p2 := hW.row.ptr
  have l1 := hE.nE
  have l2 := hW.nW
  have n1 : ne ≤ 2000 := by omega
  have n2 : nw ≤ 200 := by omega
  obtain rfl : N = (nw : Int) := by omega
  have HE := Lib.hid hE; clear hE
  have HW := Lib.hid hW; clear hW
  have HZ := Lib.hid hz; clear hz
  have L1 := Lib.hid l1; clear l1
  have L2 := Lib.hid l2; clear l2
  have H9 := Lib.hid hW9; clear hW9
  clear hW8 hE2 hN hWN
  go_enter Tryz.func139, Tryz.ntmps139
  go_wp2_with (go_at_call 134; refine (CheckG _ _ _ _ _ _ _ E hs W _ (HE.out.ext (alloc2 w _ _).2.2) (HW.out.ext (alloc2 w _ _).2.2) HZ.out).mono ?_; rintro e w1 ⟨rfl, hb1⟩; have BG : Blk w1 w.heap.size _ _ := (hb1.block _ (by simp; omega)).trans (alloc2 w _ _).1; have BR : Blk w1 (w.heap.size + 1) _ _ := (hb1.block _ (by simp)).trans (alloc2 w _ _).2.1; have g0 := BG.cell 0; have g1 := BG.cell 1; have zb := BR.lt; have HB := Lib.hid (Ext.trans (alloc2 w _ _).2.2 hb1); have BR0 := Lib.hid BR; have BG0 := Lib.hid BG; clear BR BG hb1)
  refine wp_region_head 8 [11, 12, 13, 14, 15, 16, 17, 4] (R3 w.heap.size w1.heap.size nw pe ne ce (dedup (sortBy lessE E))) (by kernel_rfl) (by kernel_rfl) (by kernel_rfl) R3_mono ?_ ?_
  · refine allLt_succ (allLt_succ (allLt_succ (allLt_succ (allLt_succ (allLt_succ (allLt_succ (allLt_succ allLt_zero ?_) ?_) ?_) ?_) ?_) ?_) ?_) ?_ <;> intro ev vs W2 hE2 hin hout hcs hf hg hd o ho <;> obtain rfl := Option.some.inj ho
    · have e1 := hout 1 rfl
      simp [go_sem] at e1
      simp [execOp, go_sem, e1]
      exact ⟨rfl, Below.refl _ _⟩
    · have e1 : _ = Value.pointer _ := (hin 11 0 rfl).trans (hd 0 (by decide))
      have c := (BG0.out.ext hE2).cell 0
      simp [execOp, go_sem, e1, c]
      exact ⟨rfl, Below.refl _ _⟩
    · have e1 := hout 1 rfl
      simp [go_sem] at e1
      simp [execOp, go_sem, e1]
      exact ⟨rfl, Below.refl _ _⟩
    · have e1 : _ = Value.pointer _ := (hin 13 2 rfl).trans (hd 2 (by decide))
      have c := (BG0.out.ext hE2).cell 1
      simp [execOp, go_sem, e1, c]
      exact ⟨rfl, Below.refl _ _⟩
    · have e1 := hf 136
      simp [go_sem] at e1
      simp [execOp, go_sem, e1]
      exact (EdgesG W2).mono fun e w' ⟨h1, h2⟩ => ⟨_, h1, rfl, h2⟩
    · have e1 := hf 158
      have e2 : _ = Value.slice _ _ _ := (hin 14 3 rfl).trans (hd 3 (by decide))
      have e3 : _ = Value.agg _ := (hin 15 4 rfl).trans (hd 4 (by decide))
      simp [go_sem] at e1
      simp [execOp, go_sem, e1, e2, e3]
      exact (OnceE _ _ _ E W2 (HE.out.ext (Ext.trans HB.out hE2)) (by omega)).mono fun e w' ⟨q, c, h1, h2, h3⟩ => ⟨_, h1, ⟨q, c, rfl, own_base h2 hE2.size⟩, h3⟩
    · have e1 : _ = Value.int _ _ := (hin 12 1 rfl).trans (hd 1 (by decide))
      obtain ⟨q, c, e2, e3⟩ := (hd 5 (by decide) : R3 _ _ _ _ _ _ _ 5 (vs 5) W2)
      have e4 := (hin 16 5 rfl).trans e2
      simp [execOp, go_sem, e1, e4]
      exact ⟨⟨q, c, rfl, e3⟩, Below.refl _ _⟩
    · simp [execOp, go_sem]
      exact ⟨⟨_, rfl, hE2.size, Blk.new _ _ _⟩, (Below.refl _ _).alloc (Nat.le_refl _) _⟩
  · intro vs W2 hE2 hR
    have r0 : vs 0 = _ := hR 0 (by decide)
    have r1 : vs 1 = _ := hR 1 (by decide)
    have r2 : vs 2 = _ := hR 2 (by decide)
    have r3 : vs 3 = _ := hR 3 (by decide)
    have r4 : vs 4 = _ := hR 4 (by decide)
    obtain ⟨q5, c5, r5, _⟩ := hR 5 (by decide)
    obtain ⟨q, cq, r6, own⟩ := hR 6 (by decide)
    obtain ⟨g, r7, hg, BO⟩ := hR 7 (by decide)
    simp only [putHd, List.mapIdx_toArray, List.mapIdx_cons, List.mapIdx_nil, Nat.zero_add, Nat.reduceAdd]
    simp [List.idxOf?_cons, List.idxOf?_nil, r0, r1, r2, r3, r4, r5, r6, r7]
    have s2 := hE2.size
    have hbw : w.heap.size + 1 < W2.heap.size := by omega
    have B1 := BO.set_ 0 (.int .i64 nw)
    have B2 := B1.set_ 1 (.slice q (dedup (sortBy lessE E)).length cq)
    have B3 := B2.set_ 2 (.slice none 0 0)
    have BOx := Lib.hid B3
    have OEx := Lib.hid (own_set (own_set (own_set own BO (by decide) 0 (.int .i64 nw)) B1 (by decide) 1 (.slice q (dedup (sortBy lessE E)).length cq)) B2 (by decide) 2 (.slice none 0 0))
    have b0 := BO.cell 0
    have b1 := BO.cell 1
    have b2 := BO.cell 2
    have f0 := BO.frozen 0
    have f1 := BO.frozen 1
    have f2 := BO.frozen 2
    have HGL := Lib.hid BO.lt
    have hgw : w.heap.size + 1 < g := by omega
    have BGx := Lib.hid ((((BG0.out.ext hE2).far (p := ⟨g, 0, none⟩) (by simp; omega) (.int .i64 nw)).far (p := ⟨g, 1, none⟩) (by simp; omega) (.slice q (dedup (sortBy lessE E)).length cq)).far (p := ⟨g, 2, none⟩) (by simp; omega) (.slice none 0 0))
    have BRx := Lib.hid ((((BR0.out.ext hE2).far (p := ⟨g, 0, none⟩) (by simp; omega) (.int .i64 nw)).far (p := ⟨g, 1, none⟩) (by simp; omega) (.slice q (dedup (sortBy lessE E)).length cq)).far (p := ⟨g, 2, none⟩) (by simp; omega) (.slice none 0 0))
    have HX := Lib.hid ((((Ext.trans HB.out hE2).setCell (p := ⟨g, 0, none⟩) (by simp; omega) (.int .i64 nw)).setCell (p := ⟨g, 1, none⟩) (by simp; omega) (.slice q (dedup (sortBy lessE E)).length cq)).setCell (p := ⟨g, 2, none⟩) (by simp; omega) (.slice none 0 0))
    have gx := BGx.out.cell 2
    clear g0 g1 BG0 BR0 HB B1 B2 B3 own BO
    go_wp2
    go_loopw [6, 21] (fun _ i wr => ∃ (j : Nat) (qh : Option Addr) (ch : Nat) (hs' : List Hd), j ≤ nw ∧ i = .int .i64 j ∧ OwnW wr W2.heap.size qh j ch hs' ((W.take j).map fun l => dedup (sortBy sLess l)) ∧ wr.ownsRow w1.heap.size 108 2 (.slice q (dedup (sortBy lessE E)).length cq) (dedup (sortBy lessE E)).length (encE (dedup (sortBy lessE E))) ∧
        Blk wr w.heap.size 112 #[.int .i64 nw, .slice pe ne ce, .slice pw nw cw] ∧ Blk wr (w.heap.size + 1) 112 #[.int .i64 0, .slice none 0 0, .slice none 0 0] ∧ Blk wr g 112 #[.int .i64 nw, .slice q (dedup (sortBy lessE E)).length cq, .slice qh j ch] ∧ Ext w wr ∧ W2.heap.size ≤ wr.heap.size) (fun _ i _ => nw - (intOf i).toNat)
    case atStart => exact ⟨0, none, 0, [], Nat.zero_le _, rfl, OwnW.nil _ _, OEx.out, BGx.out, BRx.out, BOx.out, HX.out, by simp [World.setCell]⟩
    case round =>
      clear gx OEx BGx BRx BOx HX
      obtain ⟨j, qh, ch, hs', hj, rfl, OW, OE, BG, BR, BO, HB, HZZ⟩ := hrel
      have g2 := BG.cell 2
      have o0 := BO.cell 0
      have o1 := BO.cell 1
      have o2 := BO.cell 2
      have r0 := BR.cell 0
      have r1 := BR.cell 1
      have r2 := BR.cell 2
      have q0 := BR.frozen 0
      have q1 := BR.frozen 1
      have q2 := BR.frozen 2
      have OW0 := Lib.hid OW; clear OW
      have OE0 := Lib.hid OE; clear OE
      have BG0 := Lib.hid BG; clear BG
      have BR0 := Lib.hid BR; clear BR
      have BO0 := Lib.hid BO; clear BO
      have HB0 := Lib.hid HB; clear HB
      by_cases hjt : j < nw
      · have gh := HB0.out.cell (HW.out.row.cH hjt)
        have QS := Lib.hid ((HW.out.each j hjt).ext HB0.out)
        have hlen : (nth hs j).n ≤ 8 := by rw [QS.out.nS]; exact H9.out _ (by rw [nth_eq (by rw [← L2.out]; exact hjt)]; exact List.getElem_mem _)
        have HT2 := Lib.hid (map_take_succ (fun l => dedup (sortBy sLess l)) W j (by rw [← L2.out]; exact hjt))
        have m1 : (nth hs j).n ≤ 1000000 := by omega
        have m3 : (j + 1) * 24 ≤ 140737488355328 := by omega
        have m4 : j + 1 ≤ 140737488355328 := by omega
        have M3 := Lib.hid m3; clear m3
        have M4 := Lib.hid m4; clear m4
        go_wp2
        refine wp_region_head 6 [25, 26, 27, 28, 29, 30] (R7 wr.heap.size g qh j ch (nth hs j).p (nth hs j).n (nth hs j).c (dedup (sortBy sLess (nth W j)))) (by kernel_rfl) (by kernel_rfl) (by kernel_rfl) R7_mono ?_ ?_
        · refine allLt_succ (allLt_succ (allLt_succ (allLt_succ (allLt_succ (allLt_succ allLt_zero ?_) ?_) ?_) ?_) ?_) ?_ <;> intro ev vs W3 hE3 hin hout hcs hf hg3 hd o ho <;> obtain rfl := Option.some.inj ho
          · have e1 := hout 4 rfl
            simp [go_sem] at e1
            simp [execOp, go_sem, e1]
            exact ⟨rfl, Below.refl _ _⟩
          · have e1 : _ = Value.pointer _ := (hin 25 0 rfl).trans (hd 0 (by decide))
            have c := (BO0.out.ext hE3).cell 2
            simp [execOp, go_sem, e1, c]
            exact ⟨rfl, Below.refl _ _⟩
          · have e1 := hout 6 rfl
            simp [go_sem] at e1
            simp [execOp, go_sem, e1]
            exact ⟨rfl, Below.refl _ _⟩
          · have e1 := hf 133
            simp [go_sem] at e1
            simp [execOp, go_sem, e1]
            exact (WordsG W3).mono fun e w' ⟨h1, h2⟩ => ⟨_, h1, rfl, h2⟩
          · have e1 := hf 159
            have e2 : _ = Value.slice _ _ _ := (hin 27 2 rfl).trans (hd 2 (by decide))
            have e3 : _ = Value.agg _ := (hin 28 3 rfl).trans (hd 3 (by decide))
            simp [go_sem] at e1
            simp [execOp, go_sem, e1, e2, e3]
            exact (OnceS _ _ _ (nth W j) W3 (QS.out.ext hE3) (by omega)).mono fun e w' ⟨q, c, h1, h2, h3⟩ => ⟨_, h1, ⟨q, c, rfl, own_base h2 hE3.size⟩, h3⟩
          · obtain ⟨q, c, e2, e3⟩ := (hd 4 (by decide) : R7 _ _ _ _ _ _ _ _ _ 4 (vs 4) W3)
            have e4 := (hin 29 4 rfl).trans e2
            simp [execOp, go_sem, e4]
            exact ⟨⟨q, c, _, rfl, Rd.oneH _ _ _ _ _, e3.alloc _⟩, (Below.refl _ _).alloc (Nat.le_refl _) _⟩
        · intro vs W3 hE3 hR3
          have r0 : vs 0 = _ := hR3 0 (by decide)
          have r1 : vs 1 = _ := hR3 1 (by decide)
          have r2 : vs 2 = _ := hR3 2 (by decide)
          have r3 : vs 3 = _ := hR3 3 (by decide)
          obtain ⟨q4, c4, r4, _⟩ := hR3 4 (by decide)
          obtain ⟨p', d', a', r5, RA, OR⟩ := hR3 5 (by decide)
          have OR1 := Lib.hid (own_base OR HZZ)
          have RA1 := Lib.hid RA
          have HX2 := Lib.hid hE3
          have OW2 := Lib.hid (OW0.out.ext hE3)
          have BO2 := Lib.hid (BO0.out.ext hE3)
          have BG2 := Lib.hid (BG0.out.ext hE3)
          have BR2 := Lib.hid (BR0.out.ext hE3)
          have OE2 := Lib.hid (hE3.own OE0.out)
          have HB2 := Lib.hid (Ext.trans HB0.out hE3)
          have hz3 : W2.heap.size ≤ W3.heap.size := Nat.le_trans HZZ hE3.size
          simp only [putHd, List.mapIdx_toArray, List.mapIdx_cons, List.mapIdx_nil, Nat.zero_add, Nat.reduceAdd]
          simp [List.idxOf?_cons, List.idxOf?_nil, r0, r1, r2, r3, r4, r5]
          clear r0 r1 r2 r3 r4 r5 OR RA hE3 hR3
          go_wp2_with (at_builtin; go_must ((refine wpList_append_rd rfl _ _ _ rfl W2.heap.size 22 j0 _ 1 24 Tryz.underlying110 hj0 hy0 hy1 hy2 rfl (by omega) qh j ch _ rfl OW2.out.row a' 1 1 _ rfl RA1.out (one_slice _ _ _) M3.out M4.out hz3 ?_; intro q3 c3 w3 own3 hg3 hat3 hl3; have BO3 : Blk w3 g _ _ := (hl3.block g HGL.out).trans BO2.out; have BG3 : Blk w3 w.heap.size _ _ := (hl3.block _ (by omega)).trans BG2.out; have BR3 : Blk w3 (w.heap.size + 1) _ _ := (hl3.block _ (by omega)).trans BR2.out; have HB3 := Lib.hid (Below.trans HB2.out (hl3.mono (by omega))); have OE3 := Lib.hid (own_grown OE2.out hg3 (own_own_ne OW2.out.row OE2.out (by decide))); have OW3 := Lib.hid (OwnW.push OW2.out OR1.out own3 hg3); have x2 := BO3.cell 2; have xf := BO3.frozen 2; have BO4 := Lib.hid BO3; have BG4 := Lib.hid BG3; have BR4 := Lib.hid BR3; have HS3 := hl3.size; clear own3 hg3 hat3 hl3 BO3 BG3 BR3)))
          go_roundw
          case rel => exact ⟨j + 1, q3, c3, _, by omega, by go_num, by rw [HT2.out]; exact OW3.out.set_ BO4.out (by decide) (by decide) _ _, own_set OE3.out BO4.out (by decide) _ _, BG4.out.far (by simp; omega) _, BR4.out.far (by simp; omega) _, BO4.out.set_ 2 _, HB3.out.setCell (by simp; omega) _, by simp [World.setCell]; omega⟩
          case measure => simp [intOf]; omega
      · have hjn : j = nw := by omega
        subst hjn
        have HT2 : Hid ((W.take j).map (fun l => dedup (sortBy sLess l)) = W.map (fun l => dedup (sortBy sLess l))) := by unfold Hid; rw [List.take_of_length_le (by rw [← L2.out]; omega)]
        go_wp2
        have B0 := BR0.out
        have B1 := B0.set_ 0 (.int .i64 j)
        have B2 := B1.set_ 1 (.slice q (dedup (sortBy lessE E)).length cq)
        have c0 := (B2.set_ 2 (.slice qh j ch)).cell 0
        have c1' := (B2.set_ 2 (.slice qh j ch)).cell 1
        have c2 := (B2.set_ 2 (.slice qh j ch)).cell 2
        refine bodyPost_ret (v := .tuple #[.agg #[.int .i64 j, .slice q (dedup (sortBy lessE E)).length cq, .slice qh j ch], .int .i64 0]) (by simp [results, Tryz.results139, go_sem, c0, c1', c2, Tryz.sizeOf112, Tryz.isAgg112]) rfl ⟨_, rfl, ?_, ?_⟩
        · have OW := ((OW0.out.set_ B0 (by decide) (by decide) 0 (.int .i64 j)).set_ B1 (by decide) (by decide) 1 (.slice q (dedup (sortBy lessE E)).length cq)).set_ B2 (by decide) (by decide) 2 (.slice qh j ch)
          have OE := own_set (own_set (own_set OE0.out B0 (by decide) 0 (.int .i64 j)) B1 (by decide) 1 (.slice q (dedup (sortBy lessE E)).length cq)) B2 (by decide) 2 (.slice qh j ch)
          rw [HT2.out] at OW
          have hl := OW.len
          exact ⟨q, cq, qh, ch, hs', by rw [← hl], own_base OE (by omega), by rw [← hl]; exact ⟨OW.hn, own_base OW.row (by omega), fun j hj => own_base (OW.each j hj) (by omega)⟩⟩
        · exact ((HB0.out.setCell (by simp) _).setCell (by simp) _).setCell (by simp) _
theorem NormalG0 (N : Int) (pe : Option Addr) (ne ce : Nat) (pw : Option Addr) (nw cw : Nat) (E : List (Int × Int)) (hs : List Hd) (W : List (List ByteArray)) (w : World) (hE : Rd w 2 pe ne (encE E)) (hW : RdW w pw nw hs W) (hz : SzW W) :
    Calls Tryz.prog 139 #[.agg #[.int .i64 N, .slice pe ne ce, .slice pw nw cw]] w fun e w' => ∃ v, e = .returned (.tuple #[v, .int .i64 (normC N E W)]) ∧ GraphO w' w.heap.size v (if checkB N E W then N else 0) (if checkB N E W then dedup (sortBy lessE E) else []) (if checkB N E W then W.map fun l => dedup (sortBy sLess l) else []) ∧ Ext w w' := by
  unfold normC
  by_cases hc : checkB N E W = true
  · simp only [hc, if_true]
    exact NormalG_yes N pe ne ce pw nw cw E hs W w hE hW hz hc
  · have hc' : checkB N E W = false := by simpa using hc
    simp only [hc']
    refine (NormalG_no N pe ne ce pw nw cw E hs W w hE hW hz hc').mono fun e w' ⟨he, hb⟩ => ⟨_, he, ?_, hb⟩
    exact ⟨none, 0, none, 0, [], rfl, World.ownsRow_nil _ _ _ _, OwnW.nil _ _⟩
end Go.Proofs.YtkekibnhmfmhmaaGreat
/- The program's Normal by the plain law; Degrees. -/
namespace Go.Proofs.YtkekibnhmfmhmaaGreat
open Go Go.RowKit Go.Shelf Go.Lib Go.Sort
theorem NormalG (N : Int) (pe : Option Addr) (ne ce : Nat) (pw : Option Addr) (nw cw : Nat) (E : List (Int × Int)) (hs : List Hd) (W : List (List ByteArray)) (w : World) (hE : Rd w 2 pe ne (encE E)) (hW : RdW w pw nw hs W) (hz : SzW W) :
    Calls Tryz.prog 139 #[.agg #[.int .i64 N, .slice pe ne ce, .slice pw nw cw]] w fun e w' => ∃ v, e = .returned (.tuple #[v, .int .i64 (normC N E W)]) ∧ GraphO w' w.heap.size v (normN N E W) (normE N E W) (normW N E W) ∧ Ext w w' := by
  refine (NormalG0 N pe ne ce pw nw cw E hs W w hE hW hz).mono ?_
  rintro e w' ⟨v, h1, h2, h3⟩
  refine ⟨v, h1, ?_, h3⟩
  unfold normN normE normW
  rw [← once_putAll stoE, show (putAll sLess : List ByteArray → _) = fun l => dedup (sortBy sLess l) from funext fun l => (once_putAll stoS l).symm]
  exact h2
theorem own_far {w : World} {base : Nat} {e : TypeId} {size n c : Nat} {q : Option Addr} {xs : List Value} (h : w.ownsRow base e size (.slice q n c) n xs) {b : Nat} (hb : b < base) (i : Nat) (u : Value) : (w.setCell ⟨b, i, none⟩ u).ownsRow base e size (.slice q n c) n xs := by
  refine ⟨h.1, ?_⟩
  rcases h.2 with h2 | ⟨g, cap, cur, h1, hg, hh, r⟩
  · exact .inl h2
  · exact .inr ⟨g, cap, cur, h1, hg, (Below.heap_setCell w ⟨b, i, none⟩ u g (by show g ≠ b; omega)).trans hh, r⟩
theorem GraphO.set {w : World} {base : Nat} {v : Value} {N : Int} {E : List (Int × Int)} {W : List (List ByteArray)} (h : GraphO w base v N E W) {b : Nat} (hb : b < base) (i : Nat) (u : Value) : GraphO (w.setCell ⟨b, i, none⟩ u) base v N E W := by
  obtain ⟨pe, ce, pw, cw, hs, h1, h2, h3⟩ := h
  exact ⟨pe, ce, pw, cw, hs, h1, own_far h2 hb i u, h3.hn, own_far h3.row hb i u, fun j hj => own_far (h3.each j hj) hb i u⟩
theorem GraphO.mono {w : World} {base b : Nat} {v : Value} {N : Int} {E : List (Int × Int)} {W : List (List ByteArray)} (h : GraphO w base v N E W) (hb : b ≤ base) : GraphO w b v N E W := by
  obtain ⟨pe, ce, pw, cw, hs, h1, h2, h3⟩ := h
  exact ⟨pe, ce, pw, cw, hs, h1, own_base h2 hb, h3.hn, own_base h3.row hb, fun j hj => own_base (h3.each j hj) hb⟩
/-- the counts of an edge list's places -/
def outN (E : List (Int × Int)) (v : Int) : Nat := E.countP fun x => x.1 == v
def inN (E : List (Int × Int)) (v : Int) : Nat := E.countP fun x => x.2 == v
def placeB (N : Int) (E : List (Int × Int)) (W : List (List ByteArray)) (v : Int) : Bool := checkB N E W && decide (0 ≤ v ∧ v < N)
def degO (N : Int) (E : List (Int × Int)) (W : List (List ByteArray)) (v : Int) : Int := if placeB N E W v then outN (putAll lessE E) v else 0
def degI (N : Int) (E : List (Int × Int)) (W : List (List ByteArray)) (v : Int) : Int := if placeB N E W v then inN (putAll lessE E) v else 0
theorem outN_step {E : List (Int × Int)} {v : Int} {k : Nat} (hk : k < E.length) : outN (E.take (k + 1)) v = outN (E.take k) v + if (nth E k).1 == v then 1 else 0 := by
  unfold outN; rw [take_succ_nth E k hk, List.countP_append, List.countP_singleton]
theorem inN_step {E : List (Int × Int)} {v : Int} {k : Nat} (hk : k < E.length) : inN (E.take (k + 1)) v = inN (E.take k) v + if (nth E k).2 == v then 1 else 0 := by
  unfold inN; rw [take_succ_nth E k hk, List.countP_append, List.countP_singleton]
theorem outN_le (E : List (Int × Int)) (v : Int) : outN E v ≤ E.length := List.countP_le_length
theorem inN_le (E : List (Int × Int)) (v : Int) : inN E v ≤ E.length := List.countP_le_length
end Go.Proofs.YtkekibnhmfmhmaaGreat
/- The program's Turned. -/
namespace Go.Proofs.YtkekibnhmfmhmaaGreat
open Go Go.RowKit Go.Shelf Go.Lib Go.Sort
/-- the first k turned, the others as they were -/
def turnK (E : List (Int × Int)) (k : Nat) : List (Int × Int) := (E.take k).map swapE ++ E.drop k
theorem turnK_len (E : List (Int × Int)) (k : Nat) : (turnK E k).length = E.length := by simp [turnK]; omega
theorem turnK_nth (E : List (Int × Int)) (k : Nat) (h : k < E.length) : nth (turnK E k) k = nth E k := by
  have hl : k < (turnK E k).length := by rw [turnK_len]; exact h
  unfold nth turnK
  rw [List.getD_eq_getElem?_getD, List.getD_eq_getElem?_getD, List.getElem?_append_right (by simp; omega)]
  simp [Nat.min_eq_left (Nat.le_of_lt h)]
theorem turnK_step (E : List (Int × Int)) (k : Nat) (h : k < E.length) : ((encE (turnK E k)).set (k * 2) (.int .i64 (nth E k).2)).set (k * 2 + 1) (.int .i64 (nth E k).1) = encE (turnK E (k + 1)) := by
  have h1 : encE (turnK E k) = encE ((E.take k).map swapE) ++ ([.int .i64 (nth E k).1, .int .i64 (nth E k).2] ++ encE (E.drop (k + 1))) := by
    unfold turnK
    rw [encE_append, drop_nth E k h]
    rfl
  have h2 : encE (turnK E (k + 1)) = encE ((E.take k).map swapE) ++ ([.int .i64 (nth E k).2, .int .i64 (nth E k).1] ++ encE (E.drop (k + 1))) := by
    unfold turnK
    rw [map_take_succ swapE E k h, encE_append, encE_append, List.append_assoc]
    rfl
  have hl : (encE ((E.take k).map swapE)).length = k * 2 := by rw [encE_len, List.length_map, List.length_take]; omega
  rw [h1, h2, List.set_append_right _ _ (by omega), List.set_append_right _ _ (by omega), hl]
  simp [show k * 2 + 1 - k * 2 = 1 from by omega]
set_option maxRecDepth 100000 in
set_option maxHeartbeats 2000000 in
theorem TurnedG (N : Int) (pe : Option Addr) (ne ce : Nat) (pw : Option Addr) (nw cw : Nat) (E : List (Int × Int)) (hs : List Hd) (W : List (List ByteArray)) (w : World) (hE : Rd w 2 pe ne (encE E)) (hW : RdW w pw nw hs W) (hz : SzW W) (hn : ne ≤ 100000) :
    Calls Tryz.prog 103 #[.agg #[.int .i64 N, .slice pe ne ce, .slice pw nw cw]] w fun e w' => ∃ v, e = .returned (.tuple #[v, .int .i64 (normC N (E.map swapE) W)]) ∧ GraphO w' w.heap.size v (normN N (E.map swapE) W) (normE N (E.map swapE) W) (normW N (E.map swapE) W) ∧ Ext w w' := by
  have l1 := hE.nE
  have HClone := Lib.hid (fun W1 (h : Ext w W1) => CloneE pe ne ce E W1 (hE.ext h) hn)
  have HW := Lib.hid hW; clear hW
  have HZ := Lib.hid hz; clear hz
  have L1 := Lib.hid l1; clear l1
  clear hE
  have S0 := Lib.hid (((Sep.start w).al #[.int .i64 N, .slice pe ne ce, .slice pw nw cw] 112 w.heap.size rfl).al #[.int .i64 0, .slice none 0 0, .slice none 0 0] 112 (w.heap.size + 1) (by simp))
  go_enter Tryz.func103, Tryz.ntmps103
  go_wp2_with (go_at_call 138; go_must (refine (HClone.out _ S0.out.ext).mono ?_; rintro e w1 ⟨q, c, rfl, ho, hb⟩; have S1 := S0.out.fresh hb ho (Nat.le_refl _); have c0 := (S1.blk 2 rfl).cell 0; have c1 := (S1.blk 2 rfl).cell 1; have c2 := (S1.blk 2 rfl).cell 2; have f1 := (S1.blk 2 rfl).frozen 1; have S2 := Lib.hid S1; clear S1 ho hb))
  go_loopw [4, 5, 13] (fun _ _ i wr => ∃ k : Nat, k ≤ ne ∧ i = .int .i64 k ∧ Sep w wr [.own 108 2 q ne c (encE (turnK E k)), .blk (w.heap.size + 1) 112 #[.int .i64 0, .slice none 0 0, .slice none 0 0], .blk w.heap.size 112 #[.int .i64 N, .slice q ne c, .slice pw nw cw]]) (fun _ _ i _ => ne - (intOf i).toNat)
  case atStart => exact ⟨0, Nat.zero_le _, rfl, by have := S2.out.set 2 rfl 1 (.slice q ne c); rwa [show turnK E 0 = E from by simp [turnK]]⟩
  case round =>
    clear S2 c0 c1 c2 f1
    obtain ⟨k, hk, rfl, S⟩ := hrel
    have cz := (S.blk 2 rfl).lt; have c0 := (S.blk 2 rfl).cell 0; have c1 := (S.blk 2 rfl).cell 1; have c2 := (S.blk 2 rfl).cell 2
    by_cases hlt : k < ne
    · have p1 := (S.rd 0 rfl (by omega)).ptr
      have e1 := (S.rd 0 rfl (by omega)).cE hlt
      have e2 := (S.rd 0 rfl (by omega)).cE2 hlt
      rw [turnK_nth E k (by rw [← L1.out]; exact hlt)] at e1 e2
      have k1 := own_frozen (S.own 0 rfl) (by omega) (k * 2)
      have k2 := own_frozen (S.own 0 rfl) (by omega) (k * 2 + 1)
      have z1 := (S.blt 0 rfl (by omega)).2
      have z2 : (adr q (k * 2)).block < wr.heap.size := z1
      have k3 : wr.frozen? ⟨(adr q (k * 2)).block, (adr q (k * 2)).off + 1, none⟩ = false := k2
      have e3 : wr.cell? ⟨(adr q (k * 2)).block, (adr q (k * 2)).off + 1, none⟩ = some (.int .i64 (nth E k).2) := e2
      have ya : _ ≠ _ := adr_other q (show (k * 2) ≠ (k * 2) + 1 by omega)
      have yb : _ ≠ _ := adr_other q (show (k * 2) + 1 ≠ (k * 2) by omega)
      have yc : adr q ((k * 2)) ≠ ⟨(adr q ((k * 2))).block, (adr q ((k * 2))).off + 1, none⟩ := ya
      have d1 : (0:Int) ≤ k := by omega
      have d2 : (k:Int) < ne := by omega
      have hst := Lib.hid (turnK_step E k (by rw [← L1.out]; exact hlt))
      have SH := Lib.hid S; clear S
      go_wp2
      go_roundw
      case rel => exact ⟨k + 1, by omega, by go_num, by rw [← hst.out]; exact (SH.out.junk _).setRow2 0 rfl (k * 2) (by omega) _ _⟩
      case measure => simp [intOf]; omega
    · obtain rfl : k = ne := by omega
      have HT : Hid (turnK E k = E.map swapE) := by unfold Hid turnK; rw [List.take_of_length_le (by rw [← L1.out]; omega), List.drop_of_length_le (by rw [← L1.out]; omega), List.append_nil]
      have RQ := Lib.hid (S.rd 0 rfl (by omega))
      rw [HT.out] at RQ
      have SH := Lib.hid S; clear S
      go_wp2_with (go_at_call 139; go_must (refine (NormalG N q k c pw nw cw (E.map swapE) hs W _ RQ.out (HW.out.ext SH.out.ext) HZ.out).mono ?_; rintro e w2 ⟨v, rfl, hG, hb2⟩; have S2 := SH.out.call hb2; have z2 : w.heap.size + 1 < wr.heap.size := (SH.out.blk 1 rfl).lt; have HG := Lib.hid hG; obtain ⟨pe', ce', pw', cw', hs', rfl, _, _⟩ := hG; have x0 := (S2.blk 1 rfl).cell 0; have x1 := (S2.blk 1 rfl).cell 1; have x2 := (S2.blk 1 rfl).cell 2; have f0 := (S2.blk 1 rfl).frozen 0; have f1 := (S2.blk 1 rfl).frozen 1; have f2 := (S2.blk 1 rfl).frozen 2; have S3 := Lib.hid S2; clear S2))
      have S4 := ((S3.out.set 1 rfl 0 (.int .i64 (normN N (E.map swapE) W))).set 1 rfl 1 (.slice pe' (normE N (E.map swapE) W).length ce')).set 1 rfl 2 (.slice pw' (normW N (E.map swapE) W).length cw')
      have b0 := (S4.blk 1 rfl).cell 0
      have b1 := (S4.blk 1 rfl).cell 1
      have b2 := (S4.blk 1 rfl).cell 2
      refine bodyPost_ret (v := .tuple #[.agg #[.int .i64 (normN N (E.map swapE) W), .slice pe' (normE N (E.map swapE) W).length ce', .slice pw' (normW N (E.map swapE) W).length cw'], .int .i64 (normC N (E.map swapE) W)]) (by simp [results, Tryz.results103, go_sem, b0, b1, b2, Tryz.sizeOf112, Tryz.isAgg112]) rfl ⟨_, rfl, ?_, S4.ext⟩
      have hg1 := HG.out.set z2 0 (.int .i64 (normN N (E.map swapE) W))
      exact ((hg1.set z2 1 (.slice pe' (normE N (E.map swapE) W).length ce')).set z2 2 (.slice pw' (normW N (E.map swapE) W).length cw')).mono (by omega)
end Go.Proofs.YtkekibnhmfmhmaaGreat
/- Plain facts of chapter 2 that many laws use: what is not looked at bounds what is; rows that are read. -/
namespace Go.Proofs.YtkekibnhmfmhmaaGreat
open Go Go.RowKit
theorem szW_of_big {E : List (Int × Int)} {W : List (List ByteArray)} (h : bigB E W = false) : SzW W := by
  unfold bigB at h
  simp only [Bool.or_eq_false_iff, Bool.and_eq_false_iff] at h
  obtain ⟨⟨⟨h1, h2⟩, _⟩, _⟩ := h
  have hw : W.length ≤ 250 := by simpa using h2
  have hb : W.any badRow = false := by
    rcases h1 with h1 | h1
    · simp at h1; omega
    · exact h1
  intro l hl s hs
  have h3 := List.any_eq_false.1 hb l hl
  unfold badRow at h3
  simp only [Bool.or_eq_true, not_or, Bool.not_eq_true] at h3
  have h4 := List.any_eq_false.1 h3.2 s hs
  unfold longB at h4
  simp at h4
  omega
theorem lens_of_big {E : List (Int × Int)} {W : List (List ByteArray)} (h : bigB E W = false) : E.length ≤ 2100 ∧ W.length ≤ 250 ∧ ∀ l ∈ W, l.length ≤ 20 := by
  unfold bigB at h
  simp only [Bool.or_eq_false_iff, Bool.and_eq_false_iff] at h
  obtain ⟨⟨⟨h1, h2⟩, _⟩, h4⟩ := h
  have hw : W.length ≤ 250 := by simpa using h2
  refine ⟨by simpa using h4, hw, fun l hl => ?_⟩
  have hb : W.any badRow = false := by
    rcases h1 with h1 | h1
    · simp at h1; omega
    · exact h1
  have h3 := List.any_eq_false.1 hb l hl
  unfold badRow at h3
  simp at h3
  omega
theorem norm_lens (N : Int) (E : List (Int × Int)) (W : List (List ByteArray)) (h1 : E.length ≤ 2100) (h2 : W.length ≤ 250) (h3 : ∀ l ∈ W, l.length ≤ 20) : (normE N E W).length ≤ 2100 ∧ (normW N E W).length ≤ 250 ∧ ∀ l ∈ normW N E W, l.length ≤ 20 := by
  unfold normE normW
  by_cases hc : checkB N E W = true
  · simp only [hc, if_true]
    refine ⟨Nat.le_trans (putAll_len _ _) h1, by rw [List.length_map]; exact h2, fun l hl => ?_⟩
    obtain ⟨l', hl', rfl⟩ := List.mem_map.1 hl
    exact Nat.le_trans (putAll_len _ _) (h3 l' hl')
  · have : checkB N E W = false := by simpa using hc
    simp only [this, Bool.false_eq_true, if_false]
    exact ⟨by simp, by simp, fun l hl => by cases hl⟩
theorem Blk.rd {W : World} {g : Nat} {t : TypeId} {cs : Array Value} (h : Blk W g t cs) {n size : Nat} {xs : List Value} (hx : cs.toList = xs) (hn : xs.length = n * size) (hs : n ≤ 9223372036854775807) : Rd W size (some ⟨g, 0, none⟩) n xs := by
  subst hx
  refine ⟨hn, .inr ⟨_, _, rfl⟩, hs, fun j hj => ?_⟩
  rw [adr_some, Nat.zero_add, h.cell j]
  rw [List.getD_eq_getElem?_getD, Array.getElem?_toList, Array.getElem?_eq_getElem (by simp at hn; omega)]
  rfl
theorem GraphO.rd {w : World} {base : Nat} {v : Value} {N : Int} {E : List (Int × Int)} {W : List (List ByteArray)} (h : GraphO w base v N E W) (h1 : E.length ≤ 9223372036854775807) (h2 : W.length ≤ 9223372036854775807) (h3 : ∀ l ∈ W, l.length ≤ 9223372036854775807) : GraphR w v N E W := by
  obtain ⟨pe, ce, pw, cw, hs, rfl, h5, h6⟩ := h
  exact ⟨pe, _, ce, pw, _, cw, hs, rfl, Rd.of_own h5 h1, own_cap h5, h6.rd h2 h3, own_cap h6.row⟩
theorem alloc3B (w : World) (c1 c2 c3 : Array Value) (t1 t2 t3 : TypeId) : Blk (((w.alloc (.cells c1 t1)).alloc (.cells c2 t2)).alloc (.cells c3 t3)) w.heap.size t1 c1 ∧ Blk (((w.alloc (.cells c1 t1)).alloc (.cells c2 t2)).alloc (.cells c3 t3)) (w.heap.size + 1) t2 c2 ∧
    Blk (((w.alloc (.cells c1 t1)).alloc (.cells c2 t2)).alloc (.cells c3 t3)) (w.heap.size + 1 + 1) t3 c3 ∧ Ext w (((w.alloc (.cells c1 t1)).alloc (.cells c2 t2)).alloc (.cells c3 t3)) := alloc3 _ _ _ _
theorem alloc2B (w : World) (c1 c2 : Array Value) (t1 t2 : TypeId) : Blk ((w.alloc (.cells c1 t1)).alloc (.cells c2 t2)) w.heap.size t1 c1 ∧ Blk ((w.alloc (.cells c1 t1)).alloc (.cells c2 t2)) (w.heap.size + 1) t2 c2 ∧ Ext w ((w.alloc (.cells c1 t1)).alloc (.cells c2 t2)) := alloc2 _ _ _
end Go.Proofs.YtkekibnhmfmhmaaGreat
/- The program's rise and Is. -/
namespace Go.Proofs.YtkekibnhmfmhmaaGreat
open Go Go.RowKit Go.Shelf Go.Lib Go.Sort
theorem Ext.growN {w w' : World} (h : Ext w w') (os : Array Obj) : Ext w (grow w' os) :=
  ⟨h.os, h.tape, h.output, by rw [size_grow]; exact Nat.le_trans h.size (Nat.le_add_right _ _), fun k hk => (heap_grow_old w' os (Nat.lt_of_lt_of_le hk h.size)).trans (h.block k hk)⟩
theorem EdgesExt (x y : Int × Int) (W : World) : Calls Tryz.prog 154 #[.agg #[.int .i64 x.1, .int .i64 x.2], .agg #[.int .i64 y.1, .int .i64 y.2]] W fun e w' => e = .returned (.int .i64 (cmpE x y)) ∧ Ext W w' :=
  (EdgesLit x y W).mono fun e w' ⟨h, q, os, hw⟩ => ⟨h, by subst hw; exact Ext.growN (Ext.drewN (Below.refl _ _) q) os⟩
theorem cmpE_neg (x y : Int × Int) : cmpE x y < 0 ↔ lessE x y = true := by
  have := ltOf_cmpE x y
  unfold ltOf at this
  rw [← this]; simp
theorem cmpS_neg (x y : ByteArray) : cmpS x y < 0 ↔ sLess x y = true := by
  have := ltOf_cmpS x y
  unfold ltOf at this
  rw [← this]; simp
set_option maxRecDepth 100000 in
set_option maxHeartbeats 1000000 in
theorem RiseE (p : Option Addr) (n c : Nat) (l : List (Int × Int)) (w : World) (hl : Rd w 2 p n (encE l)) :
    Calls Tryz.prog 135 #[.slice p n c, .agg #[.func (.func 154) #[] #[]]] w fun e w' => e = .returned (.bool (riseB lessE l)) ∧ Ext w w' := by
  have p1 := hl.ptr
  have n1 := hl.small
  have l1 := hl.nE
  have HL := Lib.hid hl; clear hl
  have L1 := Lib.hid l1; clear l1
  go_enter Tryz.func135, Tryz.ntmps135
  go_wp2
  go_loopw [5] (fun i wr => ∃ k : Nat, 1 ≤ k ∧ (k ≤ n ∨ k = 1) ∧ i = .int .i64 k ∧ (List.range (k - 1)).all (riseAt lessE l) = true ∧ Ext w wr ∧ wr.cell? ⟨w.heap.size, 0, none⟩ = some (.func (.func 154) #[] #[])) (fun i _ => n + 1 - (intOf i).toNat)
  case atStart => exact ⟨1, Nat.le_refl _, .inr rfl, rfl, rfl, (Below.refl _ _).alloc (Nat.le_refl _) _, cellnew0 _ _ _ _⟩
  case round =>
    obtain ⟨k, hk1, hk, rfl, ha, hb, b0⟩ := hrel
    have HA := Lib.hid ha; clear ha
    have HB := Lib.hid hb; clear hb
    by_cases hlt : k < n
    · have g1 := HB.out.cell (HL.out.cE hlt)
      have g2 := HB.out.cell (HL.out.cE2 hlt)
      have g3 := HB.out.cell (HL.out.cE (k := k - 1) (by omega))
      have g4 := HB.out.cell (HL.out.cE2 (k := k - 1) (by omega))
      have e1 : ∀ x : ExtOf wr, x.val.cell? (adr p (k * 2)) = _ := fun x => x.ext.cell g1
      have e2 : ∀ x : ExtOf wr, x.val.cell? (adr p (k * 2 + 1)) = _ := fun x => x.ext.cell g2
      have e3 : ∀ x : ExtOf wr, x.val.cell? (adr p ((k - 1) * 2)) = _ := fun x => x.ext.cell g3
      have e4 : ∀ x : ExtOf wr, x.val.cell? (adr p ((k - 1) * 2 + 1)) = _ := fun x => x.ext.cell g4
      have e5 : ∀ x : ExtOf wr, x.val.cell? ⟨w.heap.size, 0, none⟩ = _ := fun x => x.ext.cell b0
      have d1 : (0:Int) ≤ k := by omega
      have d2 : (k:Int) < n := by omega
      have d3 : (0:Int) ≤ (k:Int) - 1 := by omega
      have d4 : (1:Int) ≤ (k:Int) := by omega
      have d5 : (k:Int) - 1 < n := by omega
      have d6 : ((k:Int) - 1).toNat = k - 1 := by omega
      have hkk : k - 1 + 1 = k := by omega
      have HKK := Lib.hid hkk; clear hkk
      have HC := fun W' => EdgesExt (nth l (k - 1)) (nth l k) W'
      have hcc := cmpE_neg (nth l (k - 1)) (nth l k)
      generalize cmpE (nth l (k - 1)) (nth l k) = cc at HC hcc
      have HC1 := Lib.hid HC; clear HC
      by_cases hless : cc < 0
      · have hle : decide (0 ≤ cc) = false := by simp; omega
        have hls := Lib.hid (hcc.1 hless)
        clear hcc
        go_wp2
        refine wp_region_ext (by kernel_rfl) (by kernel_rfl) ?_
        repeat (go_big_quiet_step ((go_at_call 154; exact Calls.ext_of (HC1.out _))))
        refine wpQuiet_nil ?_
        rintro w1 ⟨⟨_, hb1⟩, rfl⟩
        go_wp2
        go_roundw
        case rel => exact ⟨k + 1, by omega, .inl (by omega), by go_num, by rw [show k + 1 - 1 = k - 1 + 1 from by omega]; exact range_all_succ _ _ HA.out (by unfold riseAt; rw [HKK.out]; exact hls.out), Ext.trans HB.out hb1, hb1.cell b0⟩
        case measure => simp [intOf]; omega
      · have hle : decide (0 ≤ cc) = true := by simp; omega
        have hls : lessE (nth l (k - 1)) (nth l k) = false := by simpa using (fun h => hless (hcc.2 h))
        have HF := Lib.hid (riseB_no (lt := lessE) (l := l) (k := k - 1) (by rw [HKK.out, ← L1.out]; exact hlt) (by rw [HKK.out]; exact hls))
        clear hcc hls
        go_wp2
        refine wp_region_ext (by kernel_rfl) (by kernel_rfl) ?_
        repeat (go_big_quiet_step ((go_at_call 154; exact Calls.ext_of (HC1.out _))))
        refine wpQuiet_nil ?_
        rintro w1 ⟨⟨_, hb1⟩, rfl⟩
        go_wp2
        go_ret
        exact ⟨ret_bool HF.out.symm, Ext.trans HB.out hb1⟩
    · have HEE := Lib.hid (riseB_end (by rw [← L1.out]; exact hlt) HA.out)
      go_wp2
      go_ret
      exact ⟨ret_bool HEE.out.symm, HB.out⟩
set_option maxRecDepth 100000 in
set_option maxHeartbeats 1000000 in
theorem RiseS (p : Option Addr) (n c : Nat) (l : List ByteArray) (w : World) (hl : Rd w 1 p n (encS l)) :
    Calls Tryz.prog 132 #[.slice p n c, .agg #[.func (.func 151) #[] #[]]] w fun e w' => e = .returned (.bool (riseB sLess l)) ∧ Ext w w' := by
  have p1 := hl.ptr
  have n1 := hl.small
  have l1 := hl.nS
  have HL := Lib.hid hl; clear hl
  have L1 := Lib.hid l1; clear l1
  go_enter Tryz.func132, Tryz.ntmps132
  go_wp2
  go_loopw [5] (fun i wr => ∃ k : Nat, 1 ≤ k ∧ (k ≤ n ∨ k = 1) ∧ i = .int .i64 k ∧ (List.range (k - 1)).all (riseAt sLess l) = true ∧ Ext w wr ∧ wr.cell? ⟨w.heap.size, 0, none⟩ = some (.func (.func 151) #[] #[])) (fun i _ => n + 1 - (intOf i).toNat)
  case atStart => exact ⟨1, Nat.le_refl _, .inr rfl, rfl, rfl, (Below.refl _ _).alloc (Nat.le_refl _) _, cellnew0 _ _ _ _⟩
  case round =>
    obtain ⟨k, hk1, hk, rfl, ha, hb, b0⟩ := hrel
    have HA := Lib.hid ha; clear ha
    have HB := Lib.hid hb; clear hb
    by_cases hlt : k < n
    · have g1 := HB.out.cell (HL.out.cS hlt)
      have g3 := HB.out.cell (HL.out.cS (k := k - 1) (by omega))
      have e1 : ∀ x : ExtOf wr, x.val.cell? (adr p k) = _ := fun x => x.ext.cell g1
      have e3 : ∀ x : ExtOf wr, x.val.cell? (adr p (k - 1)) = _ := fun x => x.ext.cell g3
      have e5 : ∀ x : ExtOf wr, x.val.cell? ⟨w.heap.size, 0, none⟩ = _ := fun x => x.ext.cell b0
      have d1 : (0:Int) ≤ k := by omega
      have d2 : (k:Int) < n := by omega
      have d3 : (0:Int) ≤ (k:Int) - 1 := by omega
      have d4 : (1:Int) ≤ (k:Int) := by omega
      have d5 : (k:Int) - 1 < n := by omega
      have d6 : ((k:Int) - 1).toNat = k - 1 := by omega
      have hkk : k - 1 + 1 = k := by omega
      have HKK := Lib.hid hkk; clear hkk
      have HC : ∀ W', Calls Tryz.prog 151 #[.string (nth l (k - 1)), .string (nth l k)] W' fun e w' => e = .returned (.int .i64 (cmpS (nth l (k - 1)) (nth l k))) ∧ Ext W' w' := fun W' => (CompareS (nth l (k - 1)) (nth l k) W').mono fun e w' ⟨h, hw⟩ => ⟨h, by subst hw; exact Below.refl _ _⟩
      have hcc := cmpS_neg (nth l (k - 1)) (nth l k)
      generalize cmpS (nth l (k - 1)) (nth l k) = cc at HC hcc
      have HC1 := Lib.hid HC; clear HC
      by_cases hless : cc < 0
      · have hle : decide (0 ≤ cc) = false := by simp; omega
        have hls := Lib.hid (hcc.1 hless)
        clear hcc
        go_wp2
        refine wp_region_ext (by kernel_rfl) (by kernel_rfl) ?_
        repeat (go_big_quiet_step ((go_at_call 151; exact Calls.ext_of (HC1.out _))))
        refine wpQuiet_nil ?_
        rintro w1 ⟨⟨_, hb1⟩, rfl⟩
        go_wp2
        go_roundw
        case rel => exact ⟨k + 1, by omega, .inl (by omega), by go_num, by rw [show k + 1 - 1 = k - 1 + 1 from by omega]; exact range_all_succ _ _ HA.out (by unfold riseAt; rw [HKK.out]; exact hls.out), Ext.trans HB.out hb1, hb1.cell b0⟩
        case measure => simp [intOf]; omega
      · have hle : decide (0 ≤ cc) = true := by simp; omega
        have hls : sLess (nth l (k - 1)) (nth l k) = false := by simpa using (fun h => hless (hcc.2 h))
        have HF := Lib.hid (riseB_no (lt := sLess) (l := l) (k := k - 1) (by rw [HKK.out, ← L1.out]; exact hlt) (by rw [HKK.out]; exact hls))
        clear hcc hls
        go_wp2
        refine wp_region_ext (by kernel_rfl) (by kernel_rfl) ?_
        repeat (go_big_quiet_step ((go_at_call 151; exact Calls.ext_of (HC1.out _))))
        refine wpQuiet_nil ?_
        rintro w1 ⟨⟨_, hb1⟩, rfl⟩
        go_wp2
        go_ret
        exact ⟨ret_bool HF.out.symm, Ext.trans HB.out hb1⟩
    · have HEE := Lib.hid (riseB_end (by rw [← L1.out]; exact hlt) HA.out)
      go_wp2
      go_ret
      exact ⟨ret_bool HEE.out.symm, HB.out⟩
theorem IsLit (p : Option Addr) (n c : Nat) (l : List ByteArray) (w : World) (hl : Rd w 1 p n (encS l)) :
    Calls Tryz.prog 131 #[.slice p n c] w fun e w' => e = .returned (.bool (!riseB sLess l)) ∧ Ext w w' := by
  have HL := Lib.hid hl; clear hl
  go_enter Tryz.func131, Tryz.ntmps131
  go_wp2_with (first
    | (go_at_call 133; go_must ((refine (WordsG _).mono ?_; rintro e w1 ⟨rfl, hb1⟩; have B1 := Lib.hid hb1; clear hb1)))
    | (go_at_call 132; have _t := B1; go_must ((refine (RiseS _ _ _ _ _ (HL.out.ext B1.out)).mono ?_; rintro e w2 ⟨rfl, hb2⟩; have B2 := Lib.hid (Ext.trans B1.out hb2); clear hb2))))
  go_ret
  exact ⟨rfl, B2.out⟩
set_option maxHeartbeats 400000 in
/-- the first row that does not rise, or -1 -/
theorem IndexRise (p : Option Addr) (n c : Nat) (hs : List Hd) (W : List (List ByteArray)) (w : World) (hl : RdW w p n hs W) :
    Calls Tryz.prog 157 #[.slice p n c, .func (.func 131) #[] #[]] w fun e w' => ∃ i : Int, e = .returned (.int .i64 i) ∧ decide (0 ≤ i) = W.any (fun l => !riseB sLess l) ∧ Ext w w' := by
  have p1 := hl.row.ptr
  have n1 := hl.row.small
  have l1 := hl.nW
  have HL := Lib.hid hl; clear hl
  have L1 := Lib.hid l1; clear l1
  go_enter Tryz.func157, Tryz.ntmps157
  go_wp2
  go_loopw [5, 8] (fun _ i wr => ∃ k : Nat, k ≤ n ∧ i = .int .i64 k ∧ (W.take k).any (fun l => !riseB sLess l) = false ∧ Ext w wr) (fun _ i _ => n - (intOf i).toNat)
  case atStart => exact ⟨0, Nat.zero_le _, rfl, rfl, Below.refl _ _⟩
  case round =>
    obtain ⟨k, hk, rfl, ha, hb⟩ := hrel
    have HA := Lib.hid ha; clear ha
    have HB := Lib.hid hb; clear hb
    by_cases hlt : k < n
    · have g1 := HB.out.cell (HL.out.row.cH hlt)
      have Q1 := Lib.hid ((HL.out.each k hlt).ext HB.out)
      by_cases hw : (!riseB sLess (nth W k)) = true
      · have HF := Lib.hid (any_true_at (fun l => !riseB sLess l) W k (by rw [← L1.out]; exact hlt) hw)
        go_wp2_with (go_at_call 131; refine (IsLit _ _ _ _ _ Q1.out).mono ?_; rintro e w' ⟨rfl, hb1⟩; have H1 := Lib.hid (Ext.trans HB.out hb1); clear hb1)
        go_ret
        exact ⟨_, rfl, by rw [HF.out]; simp, H1.out⟩
      · have hw' : (!riseB sLess (nth W k)) = false := by simpa using hw
        have HW' := Lib.hid hw'
        clear hw
        go_wp2_with (go_at_call 131; refine (IsLit _ _ _ _ _ Q1.out).mono ?_; rintro e w' ⟨rfl, hb1⟩; have H1 := Lib.hid (Ext.trans HB.out hb1); clear hb1)
        go_roundw
        case rel => exact ⟨k + 1, by omega, by go_num, any_step _ _ _ (by rw [← L1.out]; exact hlt) HA.out HW'.out, H1.out⟩
        case measure => simp [intOf]; omega
    · have HF := Lib.hid (any_end _ _ _ (by rw [← L1.out]; exact hlt) HA.out)
      go_wp2
      go_ret
      exact ⟨_, rfl, by rw [HF.out]; rfl, HB.out⟩
theorem ContainsRise (p : Option Addr) (n c : Nat) (hs : List Hd) (W : List (List ByteArray)) (w : World) (hl : RdW w p n hs W) :
    Calls Tryz.prog 137 #[.slice p n c, .func (.func 131) #[] #[]] w fun e w' => e = .returned (.bool (W.any (fun l => !riseB sLess l))) ∧ Ext w w' := by
  have HC := Lib.hid (IndexRise p n c hs W w hl)
  clear hl
  go_enter Tryz.func137, Tryz.ntmps137
  go_wp2_with (go_at_call 157; refine HC.out.mono ?_; rintro e w' ⟨i, rfl, hi, hb⟩; have HI := Lib.hid hi; have HB := Lib.hid hb; clear hi hb)
  go_ret
  exact ⟨ret_bool HI.out, HB.out⟩
set_option maxRecDepth 100000 in
set_option maxHeartbeats 2000000 in
theorem IsG (N : Int) (pe : Option Addr) (ne ce : Nat) (pw : Option Addr) (nw cw : Nat) (E : List (Int × Int)) (hs : List Hd) (W : List (List ByteArray)) (w : World) (hE : Rd w 2 pe ne (encE E)) (hW : RdW w pw nw hs W) (hz : SzW W) :
    Calls Tryz.prog 102 #[.agg #[.int .i64 N, .slice pe ne ce, .slice pw nw cw]] w fun e w' => e = .returned (.bool (isB N E W)) ∧ Ext w w' := by
  have hu : isB N E W = (checkB N E W && riseB lessE E && !W.any (fun l => !riseB sLess l)) := by unfold isB; rw [← List.all_eq_not_any_not]
  rw [hu]
  have HCk := Lib.hid (fun W1 (h : Ext w W1) => CheckG N pe ne ce pw nw cw E hs W W1 (hE.ext h) (hW.ext h) hz)
  have HRi := Lib.hid (fun W1 (h : Ext w W1) => RiseE pe ne ce E W1 (hE.ext h))
  have HCo := Lib.hid (fun W1 (h : Ext w W1) => ContainsRise pw nw cw hs W W1 (hW.ext h))
  clear hE hW hz hu
  generalize checkB N E W = b1 at *
  generalize riseB lessE E = b2 at *
  generalize W.any (fun l => !riseB sLess l) = b3 at *
  have hx : Ext w (w.alloc (.cells #[.int .i64 N, .slice pe ne ce, .slice pw nw cw] 112)) := (Below.refl _ _).alloc (Nat.le_refl _) _
  have c0 : (w.alloc (.cells #[.int .i64 N, .slice pe ne ce, .slice pw nw cw] 112)).cell? ⟨w.heap.size, 0, none⟩ = some (.int .i64 N) := by simp
  have c1 : (w.alloc (.cells #[.int .i64 N, .slice pe ne ce, .slice pw nw cw] 112)).cell? ⟨w.heap.size, 1, none⟩ = some (.slice pe ne ce) := by simp
  have c2 : (w.alloc (.cells #[.int .i64 N, .slice pe ne ce, .slice pw nw cw] 112)).cell? ⟨w.heap.size, 2, none⟩ = some (.slice pw nw cw) := by simp
  cases b1 <;> cases b2 <;> cases b3 <;>
  (go_enter Tryz.func102, Tryz.ntmps102
   go_wp2
   obtain ⟨wo, hwo⟩ : ∃ wo, wo = w.alloc (.cells #[.int .i64 N, .slice pe ne ce, .slice pw nw cw] 112) := ⟨_, rfl⟩
   rw [← hwo] at hx c0 c1 c2 ⊢
   have HX := Lib.hid hx
   have e0 : ∀ x : ExtOf wo, x.val.cell? ⟨w.heap.size, 0, none⟩ = _ := fun x => x.ext.cell c0
   have e1 : ∀ x : ExtOf wo, x.val.cell? ⟨w.heap.size, 1, none⟩ = _ := fun x => x.ext.cell c1
   have e2 : ∀ x : ExtOf wo, x.val.cell? ⟨w.heap.size, 2, none⟩ = _ := fun x => x.ext.cell c2
   refine wp_region_ext (by kernel_rfl) (by kernel_rfl) ?_
   repeat (go_big_quiet_step ((first | (go_at_call 134; exact Calls.ext_of (HCk.out _ (Ext.trans HX.out (ExtOf.ext _)))) | (go_at_call 136; exact Calls.ext_of (EdgesG _)) | (go_at_call 135; exact Calls.ext_of (HRi.out _ (Ext.trans HX.out (ExtOf.ext _)))) | (go_at_call 137; exact Calls.ext_of (HCo.out _ (Ext.trans HX.out (ExtOf.ext _)))))))
   refine wpQuiet_nil ?_
   rintro w1 ⟨⟨_, hb1⟩, rfl⟩
   go_wp2
   go_ret
   exact ⟨rfl, Ext.trans HX.out hb1⟩)
end Go.Proofs.YtkekibnhmfmhmaaGreat
/- The program's rows of a graph: Make. -/
namespace Go.Proofs.YtkekibnhmfmhmaaGreat
open Go Go.RowKit Go.Shelf Go.Lib
/-- rows that are read -/
def RowsV (w : World) (v : Value) (O T R V : List Int) : Prop :=
  ∃ po no co pt nt ct pr nr cr pv nv cv, v = .agg #[.slice po no co, .slice pt nt ct, .slice pr nr cr, .slice pv nv cv] ∧ Rd w 1 po no (encI O) ∧ Rd w 1 pt nt (encI T) ∧ Rd w 1 pr nr (encI R) ∧ Rd w 1 pv nv (encI V) ∧ no ≤ co ∧ nt ≤ ct ∧ nr ≤ cr ∧ nv ≤ cv
theorem RowsV.ext {w w' : World} {v : Value} {O T R V : List Int} (h : RowsV w v O T R V) (he : Ext w w') : RowsV w' v O T R V := by
  obtain ⟨po, no, co, pt, nt, ct, pr, nr, cr, pv, nv, cv, h0, h1, h2, h3, h4, h5⟩ := h
  exact ⟨po, no, co, pt, nt, ct, pr, nr, cr, pv, nv, cv, h0, h1.ext he, h2.ext he, h3.ext he, h4.ext he, h5⟩
def turnE (E : List (Int × Int)) : List (Int × Int) := putAll lessE (E.map swapE)
def rO (b : Bool) (n : Nat) (E : List (Int × Int)) : List Int := if b = true then offL n E else []
def rT (b : Bool) (E : List (Int × Int)) : List Int := if b = true then toL E else []
def rC (b : Bool) : Int := if b = true then 0 else 20
theorem turnE_bd {N : Int} {E : List (Int × Int)} (h : ∀ x ∈ E, edgeOk N x = true) : ∀ x ∈ turnE E, 0 ≤ x.1 ∧ x.1 < N := fun x hx => by
  unfold turnE at hx
  rw [putAll_mem stoE, List.mem_map] at hx
  obtain ⟨y, hy, rfl⟩ := hx
  have := h y hy
  unfold edgeOk at this
  simp at this
  unfold swapE
  simp only
  omega
set_option maxRecDepth 100000 in
set_option maxHeartbeats 4000000 in
theorem RMakeG_no (N : Int) (pe : Option Addr) (ne ce : Nat) (pw : Option Addr) (nw cw : Nat) (E : List (Int × Int)) (hs : List Hd) (W : List (List ByteArray)) (w : World) (hE : Rd w 2 pe ne (encE E)) (hW : RdW w pw nw hs W) (hz : SzW W) (hi : isB N E W = false) :
    Calls Tryz.prog 73 #[.agg #[.int .i64 N, .slice pe ne ce, .slice pw nw cw]] w fun e w' => e = .returned (.tuple #[.agg #[.slice none 0 0, .slice none 0 0, .slice none 0 0, .slice none 0 0], .int .i64 20]) ∧ Ext w w' := by
  have HI := Lib.hid (fun W1 (h : Ext w W1) => IsG N pe ne ce pw nw cw E hs W W1 (hE.ext h) (hW.ext h) hz)
  rw [hi] at HI
  have S0 := Lib.hid (((Sep.start w).al #[.int .i64 N, .slice pe ne ce, .slice pw nw cw] 112 w.heap.size rfl).al #[.slice none 0 0, .slice none 0 0, .slice none 0 0, .slice none 0 0] 41 (w.heap.size + 1) (by simp))
  clear hE hW hz hi
  go_enter Tryz.func73, Tryz.ntmps73
  go_wp2_with (go_at_call 102; go_must (refine (HI.out _ S0.out.ext).mono ?_; rintro e w1 ⟨rfl, hb⟩; have S1 := Lib.hid (S0.out.call hb); have a0 := (S1.out.blk 0 rfl).cell 0; have a1 := (S1.out.blk 0 rfl).cell 1; have a2 := (S1.out.blk 0 rfl).cell 2; have a3 := (S1.out.blk 0 rfl).cell 3; have b0 := (S1.out.blk 0 rfl).frozen 0; have b1 := (S1.out.blk 0 rfl).frozen 1; have b2 := (S1.out.blk 0 rfl).frozen 2; have b3 := (S1.out.blk 0 rfl).frozen 3; have zb := (S1.out.blk 0 rfl).lt; clear hb))
  have S4 := (((S1.out.set 0 rfl 0 (.slice none 0 0)).set 0 rfl 1 (.slice none 0 0)).set 0 rfl 2 (.slice none 0 0)).set 0 rfl 3 (.slice none 0 0)
  have k0 := (S4.blk 0 rfl).cell 0
  have k1 := (S4.blk 0 rfl).cell 1
  have k2 := (S4.blk 0 rfl).cell 2
  have k3 := (S4.blk 0 rfl).cell 3
  refine bodyPost_ret (v := .tuple #[.agg #[.slice none 0 0, .slice none 0 0, .slice none 0 0, .slice none 0 0], .int .i64 20]) (by simp [results, Tryz.results73, go_sem, k0, k1, k2, k3, Tryz.sizeOf41, Tryz.isAgg41]) rfl ⟨rfl, S4.ext⟩
set_option maxRecDepth 100000 in
set_option maxHeartbeats 8000000 in
theorem RMakeG_yes (n : Nat) (pe : Option Addr) (ne ce : Nat) (pw : Option Addr) (nw cw : Nat) (E : List (Int × Int)) (hs : List Hd) (W : List (List ByteArray)) (w : World) (hE : Rd w 2 pe ne (encE E)) (hW : RdW w pw nw hs W) (hz : SzW W) (hi : isB n E W = true) :
    Calls Tryz.prog 73 #[.agg #[.int .i64 n, .slice pe ne ce, .slice pw nw cw]] w fun e w' => ∃ v, e = .returned (.tuple #[v, .int .i64 0]) ∧ RowsV w' v (offL n E) (toL E) (offL n (turnE E)) (toL (turnE E)) ∧ Ext w w' := by
  have HI := Lib.hid (fun W1 (h : Ext w W1) => IsG n pe ne ce pw nw cw E hs W W1 (hE.ext h) (hW.ext h) hz)
  rw [hi] at HI
  have hc : checkB n E W = true := by
    unfold isB at hi
    rw [Bool.and_eq_true, Bool.and_eq_true] at hi
    exact hi.1.1
  obtain ⟨h1, h2, h3, h4, h5, h6⟩ := checkB_parts hc
  have hEb : ∀ x ∈ E, edgeOk n x = true := List.all_eq_true.1 h5
  have l1 := hE.nE
  have HT := Lib.hid (fun W1 (h : Ext w W1) => TurnedG n pe ne ce pw nw cw E hs W W1 (hE.ext h) (hW.ext h) hz (by omega))
  have hcs : checkB n (E.map swapE) W = true := by rw [check_swap]; exact hc
  obtain ⟨a1, a2, a3, a4⟩ := norm_of hcs (rfl : _ = turnE E) (rfl : _ = W.map (putAll sLess))
  rw [a1, a2, a3, a4] at HT
  have hlt : (turnE E).length ≤ 2000 := by
    unfold turnE
    have := putAll_len lessE (E.map swapE)
    rw [List.length_map] at this; omega
  have HL1 := Lib.hid (fun W1 (h : Ext w W1) => laidG n pe ne ce E W1 (hE.ext h) (by omega) (by omega) (fun x hx => by have := hEb x hx; unfold edgeOk at this; simp at this; omega))
  have HL2 := Lib.hid (fun q c W1 (h : Rd W1 2 q (turnE E).length (encE (turnE E))) => laidG n q (turnE E).length c (turnE E) W1 h (by omega) hlt (turnE_bd hEb))
  generalize turnE E = F at *
  have S0 := Lib.hid (((Sep.start w).al #[.int .i64 n, .slice pe ne ce, .slice pw nw cw] 112 w.heap.size rfl).al #[.slice none 0 0, .slice none 0 0, .slice none 0 0, .slice none 0 0] 41 (w.heap.size + 1) (by simp))
  have h2' : n ≤ 200 := by omega
  have h3' : ne ≤ 2000 := by omega
  generalize W.map (putAll sLess) = V at *
  clear hE hW hz hi hc hcs a1 a2 a3 a4 h1 h2 h3 h4 h5 h6 hEb l1
  go_enter Tryz.func73, Tryz.ntmps73
  go_wp2_with (first
    | (go_at_call 104; have _t := T4; go_must (refine (HL2.out q2 k2 _ ((K2.out.ext T4.out.ext).get 0 rfl)).mono ?_; rintro e w5 ⟨qr, cr, qv, cv, rfl, T⟩; have T5 := Lib.hid (T4.out.comp T); have r0 := (T5.out.blk 4 rfl).cell 0; have r1 := (T5.out.blk 4 rfl).cell 1; have r2c := (T5.out.blk 4 rfl).cell 2; have r3 := (T5.out.blk 4 rfl).cell 3; have rf2 := (T5.out.blk 4 rfl).frozen 2; have rf3 := (T5.out.blk 4 rfl).frozen 3; have rz := (T5.out.blk 4 rfl).lt; have S5 := S2.out.comp T5.out; have u0 := (S5.blk 6 rfl).cell 0; have u1 := (S5.blk 6 rfl).cell 1; have u2 := (S5.blk 6 rfl).cell 2; have u3 := (S5.blk 6 rfl).cell 3; have uf0 := (S5.blk 6 rfl).frozen 0; have uf1 := (S5.blk 6 rfl).frozen 1; have uf2 := (S5.blk 6 rfl).frozen 2; have uf3 := (S5.blk 6 rfl).frozen 3; have uz := (S5.blk 6 rfl).lt; clear T S5))
    | (go_at_call 104; have _t := S2; go_must (refine (HL1.out _ (Ext.trans S2.out.ext (((Sep.start w2).al #[.int .i64 n, .slice q2 F.length k2, .slice r2 V.length m2] 112 w2.heap.size rfl).al #[.slice none 0 0, .slice none 0 0, .slice none 0 0, .slice none 0 0] 41 (w2.heap.size + 1) (by simp)).ext)).mono ?_; rintro e w4 ⟨qo, co, qt, ct, rfl, T⟩; have T3 := (((Sep.start w2).al #[.int .i64 n, .slice q2 F.length k2, .slice r2 V.length m2] 112 w2.heap.size rfl).al #[.slice none 0 0, .slice none 0 0, .slice none 0 0, .slice none 0 0] 41 (w2.heap.size + 1) (by simp)).comp T; have c0 := (T3.blk 2 rfl).cell 0; have c1 := (T3.blk 2 rfl).cell 1; have f0 := (T3.blk 2 rfl).frozen 0; have f1 := (T3.blk 2 rfl).frozen 1; have cz := (T3.blk 2 rfl).lt; have t1 := (T3.blk 3 rfl).cell 1; have tz := (T3.blk 3 rfl).lt; have S3 := S2.out.comp T3; have n0 := (S3.blk 5 rfl).cell 0; have nz := (S3.blk 5 rfl).lt; have T4 := Lib.hid ((T3.set 2 rfl 0 (.slice qo (n + 1) co)).set 2 rfl 1 (.slice qt ne ct)); clear T T3 S3))
    | (go_at_call 103; have _t := S1; go_must (refine (HT.out _ S1.out.ext).mono ?_; rintro e w2 ⟨va, rfl, ⟨q2, k2, r2, m2, h2, rfl, oe, ow⟩, hb⟩; have S2 := Lib.hid (S1.out.call hb); have K2 := Lib.hid ((Kn.nil w2).add (fun w => Rd w 2 q2 F.length (encE F)) (fun _ he => (Rd.of_own oe (by omega)).ext he)); have gz := (S2.out.blk 1 rfl).lt; have g0 := (S2.out.blk 1 rfl).cell 0; have g1 := (S2.out.blk 1 rfl).cell 1; have g2 := (S2.out.blk 1 rfl).cell 2; have gz2 := (S2.out.blk 0 rfl).lt; clear hb oe ow))
    | (go_at_call 102; go_must (refine (HI.out _ S0.out.ext).mono ?_; rintro e w1 ⟨rfl, hb⟩; have S1 := Lib.hid (S0.out.call hb); have xz := (S1.out.blk 1 rfl).lt; have x0 := (S1.out.blk 1 rfl).cell 0; have x1 := (S1.out.blk 1 rfl).cell 1; have x2 := (S1.out.blk 1 rfl).cell 2; clear hb)))
  have S6 := S2.out.comp ((T5.out.set 4 rfl 2 (.slice qr (n + 1) cr)).set 4 rfl 3 (.slice qv F.length cv))
  have S7 := (((S6.set 6 rfl 0 (.slice qo (n + 1) co)).set 6 rfl 1 (.slice qt ne ct)).set 6 rfl 2 (.slice qr (n + 1) cr)).set 6 rfl 3 (.slice qv F.length cv)
  have b0 := (S7.blk 6 rfl).cell 0
  have b1 := (S7.blk 6 rfl).cell 1
  have b2 := (S7.blk 6 rfl).cell 2
  have b3 := (S7.blk 6 rfl).cell 3
  refine bodyPost_ret (v := .tuple #[.agg #[.slice qo (n + 1) co, .slice qt ne ct, .slice qr (n + 1) cr, .slice qv F.length cv], .int .i64 0]) (by simp [results, Tryz.results73, go_sem, b0, b1, b2, b3, Tryz.sizeOf41, Tryz.isAgg41]) rfl ⟨_, rfl, ?_, S7.ext⟩
  exact ⟨qo, _, co, qt, _, ct, qr, _, cr, qv, _, cv, rfl, S7.rd 3 rfl (by omega), S7.rd 2 rfl (by omega), S7.rd 1 rfl (by omega), S7.rd 0 rfl (by omega), own_cap (S7.own 3 rfl), own_cap (S7.own 2 rfl), own_cap (S7.own 1 rfl), own_cap (S7.own 0 rfl)⟩
theorem RMakeG (N : Int) (pe : Option Addr) (ne ce : Nat) (pw : Option Addr) (nw cw : Nat) (E : List (Int × Int)) (hs : List Hd) (W : List (List ByteArray)) (w : World) (hE : Rd w 2 pe ne (encE E)) (hW : RdW w pw nw hs W) (hz : SzW W) :
    Calls Tryz.prog 73 #[.agg #[.int .i64 N, .slice pe ne ce, .slice pw nw cw]] w fun e w' => ∃ v, e = .returned (.tuple #[v, .int .i64 (rC (isB N E W))]) ∧ RowsV w' v (rO (isB N E W) N.toNat E) (rT (isB N E W) E) (rO (isB N E W) N.toNat (turnE E)) (rT (isB N E W) (turnE E)) ∧ Ext w w' := by
  cases hi : isB N E W with
  | false =>
    refine (RMakeG_no N pe ne ce pw nw cw E hs W w hE hW hz hi).mono ?_
    rintro e w' ⟨rfl, h⟩
    exact ⟨_, rfl, ⟨none, 0, 0, none, 0, 0, none, 0, 0, none, 0, 0, rfl, Rd.nil _ _ _, Rd.nil _ _ _, Rd.nil _ _ _, Rd.nil _ _ _, Nat.le_refl _, Nat.le_refl _, Nat.le_refl _, Nat.le_refl _⟩, h⟩
  | true =>
    have hN : 1 ≤ N := by
      unfold isB at hi
      rw [Bool.and_eq_true, Bool.and_eq_true] at hi
      exact (checkB_parts hi.1.1).1
    obtain ⟨n, rfl⟩ : ∃ n : Nat, N = (n : Int) := ⟨N.toNat, by omega⟩
    exact RMakeG_yes n pe ne ce pw nw cw E hs W w hE hW hz hi
end Go.Proofs.YtkekibnhmfmhmaaGreat
/- Rows made of a graph are right, and tell the graph's edges; rows that are right tell the same, either way. No program in sight. -/
namespace Go.Proofs.YtkekibnhmfmhmaaGreat
open Go Go.RowKit
theorem nodup_le {α : Type} [DecidableEq α] : ∀ {l m : List α}, l.Nodup → (∀ x ∈ l, x ∈ m) → l.length ≤ m.length
  | [], _, _, _ => by simp
  | a :: l, m, h, hm => by
    obtain ⟨h1, h2⟩ := List.nodup_cons.1 h
    have ha := hm a (by simp)
    have ih := nodup_le (m := m.erase a) h2 fun x hx => (List.mem_erase_of_ne (fun e => h1 (by rw [← e]; exact hx))).2 (hm x (by simp [hx]))
    rw [List.length_erase_of_mem ha] at ih
    have := List.length_pos_of_mem ha
    rw [List.length_cons]; omega
theorem rises_pick {α : Type} {lt : α → α → Bool} {l m : List α} (h : Rises lt l) (hs : m.Sublist l) : Rises lt m := List.Pairwise.sublist hs h
section
variable {n : Nat} {A : List (Int × Int)}
/-- the k-th offset is the length of what comes ahead -/
theorem off_at (hb : ∀ x ∈ A, 0 ≤ x.1 ∧ x.1 < n) {k : Nat} (hk : k < n + 1) : (nth (offL n A) k).toNat = (placesK A k).length := by
  rw [offL_nth A hk, placesK_len A (fun x hx => (hb x hx).1) k]; omega
theorem to_split (h : Rises lessE A) (hb : ∀ x ∈ A, 0 ≤ x.1 ∧ x.1 < n) {k : Nat} (hk : k < n) : ∃ t, toL A = (placesK A k).map (·.2) ++ ((placeE A k).map (·.2) ++ t) := by
  have h1 : placesK A n = A := places_all h hb
  have h2 : ∀ d j, ∃ t, placesK A (j + d) = placesK A j ++ t := by
    intro d
    induction d with
    | zero => intro j; exact ⟨[], by simp⟩
    | succ d ih =>
      intro j
      obtain ⟨t, ht⟩ := ih j
      exact ⟨t ++ placeE A (j + d), by rw [← Nat.add_assoc, placesK_step, ht, List.append_assoc]⟩
  obtain ⟨t, ht⟩ := h2 (n - (k + 1)) (k + 1)
  rw [show k + 1 + (n - (k + 1)) = n by omega, h1] at ht
  refine ⟨t.map (·.2), ?_⟩
  unfold toL
  conv => lhs; rw [ht, placesK_step]
  simp
theorem row_of (h : Rises lessE A) (hb : ∀ x ∈ A, 0 ≤ x.1 ∧ x.1 < n) {k : Nat} (hk : k < n) : rowL (offL n A) (toL A) k = (placeE A k).map (·.2) := by
  obtain ⟨t, ht⟩ := to_split h hb hk
  unfold rowL
  rw [off_at hb (by omega), off_at hb (by omega), placesK_step, List.length_append, ht]
  rw [List.drop_left' (by simp), Nat.add_sub_cancel_left, List.take_left' (by simp)]
theorem rowX_of (h : Rises lessE A) (hb : ∀ x ∈ A, 0 ≤ x.1 ∧ x.1 < n) {k : Nat} (hk : k < n) : rowX (offL n A) (toL A) k = placeE A k := by
  unfold rowX
  rw [row_of h hb hk, List.map_map]
  conv => rhs; rw [← List.map_id (placeE A k)]
  refine List.map_congr_left fun x hx => ?_
  unfold placeE at hx
  rw [List.mem_filter, decide_eq_true_eq] at hx
  simp only [Function.comp, id]
  rw [← hx.2]
theorem pairs_of (h : Rises lessE A) (hb : ∀ x ∈ A, 0 ≤ x.1 ∧ x.1 < n) : pairs (offL n A) (toL A) = A := by
  have : ∀ k, k ≤ n → pairsK (offL n A) (toL A) k = placesK A k := by
    intro k
    induction k with
    | zero => intro _; rfl
    | succ k ih => intro hk; rw [pairsK_step, placesK_step, ih (by omega), rowX_of h hb (by omega)]
  unfold pairs
  rw [offL_len, Nat.add_sub_cancel, this n (Nat.le_refl _), places_all h hb]
theorem half_of (h : Rises lessE A) (hb : ∀ x ∈ A, 0 ≤ x.1 ∧ x.1 < n ∧ 0 ≤ x.2 ∧ x.2 < n) (h1 : 1 ≤ n) (h2 : n ≤ 200) (h3 : A.length ≤ 2000) : halfB (offL n A) (toL A) = true := by
  have hb' : ∀ x ∈ A, 0 ≤ x.1 ∧ x.1 < n := fun x hx => ⟨(hb x hx).1, (hb x hx).2.1⟩
  have e0 : nth (offL n A) 0 = 0 := by
    rw [offL_nth A (by omega), List.countP_eq_zero.2 fun x hx => by have := (hb x hx).1; simp; omega]; rfl
  have en : nth (offL n A) n = A.length := by
    rw [offL_nth A (by omega), List.countP_eq_length.2 fun x hx => by have := (hb x hx).2.1; simp; omega]
  have es : sortB (offL n A) = true := by
    unfold sortB
    rw [List.all_eq_true]
    intro v hv
    rw [List.mem_range, offL_len] at hv
    rw [offL_nth A (by omega), offL_nth A (by omega), count_step]
    simp; omega
  unfold halfB offB
  rw [offL_len, e0, Nat.add_sub_cancel, en, es]
  have : (toL A).length = A.length := by simp [toL]
  rw [this]
  rw [decide_eq_true (by omega : 2 ≤ n + 1), decide_eq_true (by omega : n + 1 ≤ 201), decide_eq_true h3]
  simp only [decide_true, Bool.true_and, List.all_eq_true]
  intro v hv
  rw [List.mem_range] at hv
  rw [okRow_iff, row_of h hb' hv]
  refine ⟨fun x hx => ?_, ?_⟩
  · obtain ⟨y, hy, rfl⟩ := List.mem_map.1 hx
    unfold placeE at hy
    exact (hb y (List.mem_filter.1 hy).1).2.2
  · rw [Rises, List.pairwise_map]
    refine (h.sublist (List.filter_sublist (p := fun x : Int × Int => decide (x.1 = (v:Int))))).imp_of_mem fun {a b} ha hb hab => ?_
    have ha := List.mem_filter.1 ha
    have hb := List.mem_filter.1 hb
    rw [decide_eq_true_eq] at ha hb
    rw [lessE_iff] at hab
    simp only [ltI, decide_eq_true_eq]
    omega
end
theorem mem_row_of {n : Nat} {A : List (Int × Int)} (h : Rises lessE A) (hb : ∀ x ∈ A, 0 ≤ x.1 ∧ x.1 < n) {k : Nat} (hk : k < n) {y : Int} : y ∈ rowL (offL n A) (toL A) k ↔ ((k:Int), y) ∈ A := by
  rw [row_of h hb hk, List.mem_map]
  unfold placeE
  constructor
  · rintro ⟨x, hx, rfl⟩
    rw [List.mem_filter, decide_eq_true_eq] at hx
    rw [← hx.2]; exact hx.1
  · intro hx; exact ⟨_, List.mem_filter.2 ⟨hx, by simp⟩, rfl⟩
theorem turnE_mem {E : List (Int × Int)} {x : Int × Int} : x ∈ turnE E ↔ swapE x ∈ E := by
  unfold turnE
  rw [putAll_mem stoE, List.mem_map]
  constructor
  · rintro ⟨y, hy, rfl⟩; exact hy
  · intro h; exact ⟨_, h, rfl⟩
theorem turnE_rises (E : List (Int × Int)) : Rises lessE (turnE E) := putAll_rises stoE _
/-- what is made is right -/
theorem check_of {n : Nat} {A : List (Int × Int)} (h : Rises lessE A) (hb : ∀ x ∈ A, 0 ≤ x.1 ∧ x.1 < n ∧ 0 ≤ x.2 ∧ x.2 < n) (h1 : 1 ≤ n) (h2 : n ≤ 200) (h3 : A.length ≤ 2000) :
    checkR (offL n A) (toL A) (offL n (turnE A)) (toL (turnE A)) = true := by
  have hb' : ∀ x ∈ A, 0 ≤ x.1 ∧ x.1 < n := fun x hx => ⟨(hb x hx).1, (hb x hx).2.1⟩
  have hbt : ∀ x ∈ turnE A, 0 ≤ x.1 ∧ x.1 < n ∧ 0 ≤ x.2 ∧ x.2 < n := fun x hx => by
    have := hb _ (turnE_mem.1 hx)
    unfold swapE at this
    simp only at this
    omega
  have hbt' : ∀ x ∈ turnE A, 0 ≤ x.1 ∧ x.1 < n := fun x hx => ⟨(hbt x hx).1, (hbt x hx).2.1⟩
  have hnd : A.Nodup := h.imp fun {a b} hab e => by subst e; rw [lessE_iff] at hab; omega
  have hlen : (turnE A).length = A.length := by
    refine Nat.le_antisymm ?_ ?_
    · have := putAll_len lessE (A.map swapE); rw [List.length_map] at this; exact this
    · have hnt : (turnE A).Nodup := (turnE_rises A).imp fun {a b} hab e => by subst e; rw [lessE_iff] at hab; omega
      have : A.Nodup := hnd
      have h4 := nodup_le (m := (turnE A).map swapE) hnd fun x hx => List.mem_map.2 ⟨swapE x, turnE_mem.2 (by rw [swapE_swapE]; exact hx), swapE_swapE x⟩
      rwa [List.length_map] at h4
  unfold checkR
  rw [half_of h hb h1 h2 h3, half_of (turnE_rises A) hbt h1 h2 (by omega), pairs_of h hb', offL_len, offL_len]
  have e1 : (toL A).length = (toL (turnE A)).length := by simp [toL, hlen]
  rw [decide_eq_true e1]
  simp only [decide_true, Bool.true_and, List.all_eq_true]
  intro x hx
  rw [inB_iff]
  have hx2 := hb x hx
  obtain ⟨u, hu⟩ : ∃ u : Nat, x.2 = (u:Int) := ⟨x.2.toNat, by omega⟩
  rw [hu, Int.toNat_natCast, mem_row_of (turnE_rises A) hbt' (by omega), turnE_mem]
  have : swapE ((u:Int), x.1) = x := by unfold swapE; simp only; rw [← hu]
  rw [this]; exact hx
/-! ### rows that are right tell the same, either way -/
theorem pairs_rises {O T : List Int} (h : halfB O T = true) : ∀ k, k ≤ O.length - 1 → Rises lessE (pairsK O T k)
  | 0, _ => List.Pairwise.nil
  | k + 1, hk => by
    rw [pairsK_step]
    refine List.pairwise_append.2 ⟨pairs_rises h k (by omega), ?_, fun a ha b hb => ?_⟩
    · unfold rowX
      rw [List.pairwise_map]
      refine (row_rises h (by omega)).imp fun {a b} hab => ?_
      rw [lessE_iff]
      simp [ltI] at hab
      right; exact ⟨rfl, hab⟩
    · unfold pairsK rowX at ha
      unfold rowX at hb
      simp only [List.mem_flatMap, List.mem_range, List.mem_map] at ha hb
      obtain ⟨v, h1, y, _, rfl⟩ := ha
      obtain ⟨z, _, rfl⟩ := hb
      rw [lessE_iff]; left; simp only; omega
theorem pairs_count {O T : List Int} (h : halfB O T = true) : (pairs O T).length = T.length := by
  obtain ⟨r1, r2, r3, r4, r5, r6⟩ := offB_parts (halfB_off h)
  have hok := offOk_of (halfB_off h)
  have : ∀ k, k < O.length → (pairsK O T k).length = (nth O k).toNat := by
    intro k
    induction k with
    | zero => intro _; rw [r4]; rfl
    | succ k ih =>
      intro hk
      rw [pairsK_step, List.length_append, ih (by omega)]
      unfold rowX
      rw [List.length_map, rowL_len hok hk]
      have := hok.le k hk
      have := hok.lo k (by omega)
      omega
  unfold pairs
  rw [this _ (by omega), r5]; omega
theorem mem_all {α : Type} [DecidableEq α] {l m : List α} (h : l.Nodup) (hs : ∀ x ∈ l, x ∈ m) (hl : m.length ≤ l.length) {x : α} (hx : x ∈ m) : x ∈ l := by
  by_cases hn : x ∈ l
  · exact hn
  · have h1 := nodup_le (m := m.erase x) h fun y hy => (List.mem_erase_of_ne (fun (e : y = x) => hn (by rw [← e]; exact hy))).2 (hs y hy)
    rw [List.length_erase_of_mem hx] at h1
    have := List.length_pos_of_mem hx
    omega
/-- each pair of the other rows stands in these, turned -/
theorem check_turn {O T R V : List Int} (h : checkR O T R V = true) {x : Int × Int} : x ∈ pairs O T ↔ swapE x ∈ pairs R V := by
  obtain ⟨h1, h2, h3, h4⟩ := checkR_half h
  have hall : ∀ y ∈ pairs O T, swapE y ∈ pairs R V := fun y hy => by
    unfold checkR at h
    simp only [Bool.and_eq_true, List.all_eq_true] at h
    have h5 := h.2 y hy
    rw [inB_iff] at h5
    have hb := pair_bd h3 hy
    exact mem_pairs.2 ⟨y.2.toNat, by omega, by unfold swapE; simp only; omega, h5⟩
  refine ⟨hall x, fun hx => ?_⟩
  have hnd : (pairs O T).Nodup := (pairs_rises h3 _ (Nat.le_refl _)).imp fun {a b} hab e => by subst e; rw [lessE_iff] at hab; omega
  have hnd2 : ((pairs O T).map swapE).Nodup := by
    rw [List.Nodup, List.pairwise_map]
    exact hnd.imp fun {a b} hab e => hab (by have := congrArg swapE e; rwa [swapE_swapE, swapE_swapE] at this)
  have h6 := mem_all hnd2 (fun y hy => by obtain ⟨z, hz, rfl⟩ := List.mem_map.1 hy; exact hall z hz) (by rw [List.length_map, pairs_count h3, pairs_count h4, h2]; exact Nat.le_refl _) hx
  obtain ⟨z, hz, e⟩ := List.mem_map.1 h6
  have : z = x := by have := congrArg swapE e; rwa [swapE_swapE, swapE_swapE] at this
  exact this ▸ hz
theorem row_turn {O T R V : List Int} (h : checkR O T R V = true) {v u : Nat} (hv : v < O.length - 1) (hu : u < O.length - 1) : inB (rowL O T u) v = inB (rowL R V v) u := by
  have h1 := (checkR_half h).1
  rw [Bool.eq_iff_iff, inB_iff, inB_iff]
  have e1 : (v:Int) ∈ rowL O T u ↔ ((u:Int), (v:Int)) ∈ pairs O T := by
    rw [mem_pairs]
    constructor
    · intro h; exact ⟨u, hu, rfl, h⟩
    · rintro ⟨k, _, h2, h3⟩; simp only at h2; have : u = k := by omega
      subst this; exact h3
  have e2 : (u:Int) ∈ rowL R V v ↔ ((v:Int), (u:Int)) ∈ pairs R V := by
    rw [mem_pairs]
    constructor
    · intro h; exact ⟨v, by omega, rfl, h⟩
    · rintro ⟨k, _, h2, h3⟩; simp only at h2; have : v = k := by omega
      subst this; exact h3
  rw [e1, e2, check_turn h]; rfl
end Go.Proofs.YtkekibnhmfmhmaaGreat
/- Rows that are right: where places lead to, forth and back. -/
namespace Go.Proofs.YtkekibnhmfmhmaaGreat
open Go Go.RowKit
/-- where a place leads to -/
def nxR (back : Bool) (O T R V : List Int) : Nat → List Int := if back = true then rowL R V else rowL O T
theorem row_in {O T : List Int} (h : halfB O T = true) : InN (rowL O T) (O.length - 1) := by
  intro u hu x hx
  unfold halfB at h
  rw [Bool.and_eq_true] at h
  have := List.all_eq_true.1 h.2 u (List.mem_range.2 hu)
  exact (okRow_iff.1 this).1 x hx
theorem nxR_in {O T R V : List Int} (h : checkR O T R V = true) (back : Bool) : InN (nxR back O T R V) (O.length - 1) := by
  obtain ⟨h1, h2, h3, h4⟩ := checkR_half h
  cases back with
  | false => exact row_in h3
  | true => have := row_in h4; rw [← h1] at this; exact this
theorem nxR_rev {O T R V : List Int} (h : checkR O T R V = true) (back : Bool) : Rev (nxR back O T R V) (nxR (!back) O T R V) (O.length - 1) := by
  have key : ∀ u v : Nat, u < O.length - 1 → v < O.length - 1 → ((v : Int) ∈ rowL O T u ↔ (u : Int) ∈ rowL R V v) := fun u v hu hv => by
    have := row_turn h hv hu
    rw [Bool.eq_iff_iff, inB_iff, inB_iff] at this
    exact this
  cases back with
  | false => exact key
  | true => exact fun u v hu hv => (key v u hv hu).symm
/-- all ways, in a direction -/
def edgD (back : Bool) (O T : List Int) : List (Int × Int) := if back = true then (pairs O T).map swapE else pairs O T
theorem edgD_bd {O T : List Int} (h : halfB O T = true) (back : Bool) : ∀ x ∈ edgD back O T, 0 ≤ x.1 ∧ x.1 < ((O.length - 1 : Nat) : Int) ∧ 0 ≤ x.2 ∧ x.2 < ((O.length - 1 : Nat) : Int) := by
  intro x hx
  cases back with
  | false => exact pair_bd h hx
  | true =>
    obtain ⟨y, hy, rfl⟩ := List.mem_map.1 hx
    have := pair_bd h hy
    exact ⟨this.2.2.1, this.2.2.2, this.1, this.2.1⟩
theorem edgD_mem {O T R V : List Int} (h : checkR O T R V = true) (back : Bool) : ∀ u v : Nat, u < O.length - 1 → v < O.length - 1 → (((u : Int), (v : Int)) ∈ edgD back O T ↔ (v : Int) ∈ nxR back O T R V u) := by
  have key : ∀ u v : Nat, u < O.length - 1 → (((u : Int), (v : Int)) ∈ pairs O T ↔ (v : Int) ∈ rowL O T u) := fun u v hu => by
    rw [mem_pairs]
    constructor
    · rintro ⟨k, h1, h2, h3⟩
      have : u = k := by simp only at h2; omega
      subst this; exact h3
    · intro h1; exact ⟨u, hu, rfl, h1⟩
  intro u v hu hv
  cases back with
  | false => exact key u v hu
  | true =>
    have e : ((u : Int), (v : Int)) ∈ edgD true O T ↔ ((v : Int), (u : Int)) ∈ pairs O T := by
      show _ ∈ (pairs O T).map swapE ↔ _
      rw [List.mem_map]
      constructor
      · rintro ⟨y, hy, e⟩
        unfold swapE at e
        injection e with e1 e2
        rw [← e1, ← e2]; exact hy
      · intro h1; exact ⟨_, h1, rfl⟩
    rw [e, key v u hv]
    exact (nxR_rev h true u v hu hv).symm
theorem row_rises8 {O T R V : List Int} (h : checkR O T R V = true) (back : Bool) {u : Nat} (hu : u < O.length - 1) : Rises ltI (nxR back O T R V u) := by
  obtain ⟨h1, h2, h3, h4⟩ := checkR_half h
  cases back with
  | false => exact row_rises h3 hu
  | true => exact row_rises h4 (by omega)
/-- levels, as the chapter says: a row; the error -/
def levC (ck : Bool) (O : List Int) (s : Int) : Int := if ck = true then (if 0 ≤ s ∧ s < (O.length : Int) - 1 then 0 else 1) else 40
def levR (ck back : Bool) (O T R V : List Int) (s : Int) : List Int := if levC ck O s = 0 then (List.range (O.length - 1)).map fun v => lev (nxR back O T R V) (O.length - 1) s.toNat v else []
end Go.Proofs.YtkekibnhmfmhmaaGreat
/- The order of places by their ways (chapter 11), in plain Lean. -/
namespace Go.Proofs.YtkekibnhmfmhmaaGreat
open Go Go.RowKit
/-- more ways first; of as many the lesser place -/
def ltW (a b : Int × Int) : Bool := decide (b.2 < a.2) || (decide (a.2 = b.2) && decide (a.1 < b.1))
theorem ltW_iff {a b : Int × Int} : ltW a b = true ↔ b.2 < a.2 ∨ (a.2 = b.2 ∧ a.1 < b.1) := by
  unfold ltW
  rw [Bool.or_eq_true, Bool.and_eq_true, decide_eq_true_eq, decide_eq_true_eq, decide_eq_true_eq]
theorem ltW_no {a b : Int × Int} : ltW a b = false ↔ ¬ (b.2 < a.2 ∨ (a.2 = b.2 ∧ a.1 < b.1)) := by
  rw [← ltW_iff]; simp
theorem stoW : STO ltW where
  irrefl a := by rw [ltW_no]; omega
  trans a b c h k := by rw [ltW_iff] at *; omega
  tri a b h k := by rw [ltW_no] at *; exact Prod.ext (by omega) (by omega)
/-- how many ways a place has -/
def wayN (O R : List Int) (v : Nat) : Int := nth O (v + 1) - nth O v + nth R (v + 1) - nth R v
/-- places with their ways -/
def waysP (O R : List Int) (n : Nat) : List (Int × Int) := (List.range n).map fun v : Nat => ((v : Int), wayN O R v)
theorem waysP_len (O R : List Int) (n : Nat) : (waysP O R n).length = n := by simp [waysP]
theorem waysP_nodup (O R : List Int) (n : Nat) : (waysP O R n).Nodup := by
  unfold waysP
  refine List.Pairwise.map _ (fun a b h e => h ?_) List.nodup_range
  have := congrArg Prod.fst e
  simp only at this
  omega
theorem waysP_mem {O R : List Int} {n : Nat} {x : Int × Int} : x ∈ waysP O R n ↔ ∃ v : Nat, v < n ∧ x = ((v : Int), wayN O R v) := by
  unfold waysP
  rw [List.mem_map]
  constructor
  · rintro ⟨v, h, rfl⟩; exact ⟨v, List.mem_range.1 h, rfl⟩
  · rintro ⟨v, h, rfl⟩; exact ⟨v, List.mem_range.2 h, rfl⟩
theorem waysP_step (O R : List Int) (n : Nat) : waysP O R (n + 1) = waysP O R n ++ [((n : Int), wayN O R n)] := by
  unfold waysP; rw [List.range_succ, List.map_append]; rfl
/-- what the document says: of each number of ways, the greatest first, the places -/
def byP (O R : List Int) (n k : Nat) : List (Int × Int) := (List.range k).flatMap fun i : Nat => ((List.range n).filter fun v => wayN O R v == 4000 - (i : Int)).map fun v : Nat => ((v : Int), wayN O R v)
def byL (O R : List Int) (n : Nat) : List Int := (byP O R n 4001).map (·.1)
theorem byP_step (O R : List Int) (n k : Nat) : byP O R n (k + 1) = byP O R n k ++ ((List.range n).filter fun v => wayN O R v == 4000 - (k : Int)).map fun v : Nat => ((v : Int), wayN O R v) := by
  unfold byP; rw [List.range_succ, List.flatMap_append]; simp
theorem byP_mem {O R : List Int} {n k : Nat} {x : Int × Int} : x ∈ byP O R n k ↔ ∃ v : Nat, v < n ∧ x = ((v : Int), wayN O R v) ∧ wayN O R v ≤ 4000 ∧ 4000 - k < wayN O R v := by
  unfold byP
  rw [List.mem_flatMap]
  constructor
  · rintro ⟨i, hi, hx⟩
    obtain ⟨v, hv, rfl⟩ := List.mem_map.1 hx
    obtain ⟨h1, h2⟩ := List.mem_filter.1 hv
    have hi' := List.mem_range.1 hi
    have h3 : wayN O R v = 4000 - i := by simpa using h2
    exact ⟨v, List.mem_range.1 h1, rfl, by omega, by omega⟩
  · rintro ⟨v, h1, rfl, h2, h3⟩
    refine ⟨(4000 - wayN O R v).toNat, List.mem_range.2 (by omega), List.mem_map.2 ⟨v, List.mem_filter.2 ⟨List.mem_range.2 h1, ?_⟩, rfl⟩⟩
    simp; omega
theorem byP_rises (O R : List Int) (n : Nat) : ∀ k, Rises ltW (byP O R n k)
  | 0 => by simp [byP]
  | k + 1 => by
    rw [byP_step, Rises, List.pairwise_append]
    refine ⟨byP_rises O R n k, ?_, ?_⟩
    · have h : (List.range n).Pairwise (· < ·) := List.pairwise_lt_range
      refine List.Pairwise.map _ (fun a b (hab : a < b ∧ wayN O R a = wayN O R b) => ?_) (R := fun a b => a < b ∧ wayN O R a = wayN O R b) ?_
      · rw [ltW_iff]; right; simp only; omega
      · have h2 := h.filter (fun v => wayN O R v == 4000 - (k : Int))
        refine h2.imp_of_mem fun {a b} ha hb hab => ⟨hab, ?_⟩
        have e1 : wayN O R a = 4000 - k := by simpa using (List.mem_filter.1 ha).2
        have e2 : wayN O R b = 4000 - k := by simpa using (List.mem_filter.1 hb).2
        omega
    · intro a ha b hb
      obtain ⟨v, _, rfl, _, h1⟩ := byP_mem.1 ha
      obtain ⟨u, hu, rfl⟩ := List.mem_map.1 hb
      have e : wayN O R u = 4000 - k := by simpa using (List.mem_filter.1 hu).2
      rw [ltW_iff]; left; simp only; omega
/-- what rises and holds all places is what the document says -/
theorem by_uniq {O R : List Int} {n : Nat} (hw : ∀ v, v < n → 0 ≤ wayN O R v ∧ wayN O R v ≤ 4000) {out : List (Int × Int)} (h1 : Rises ltW out) (hp : out.Perm (waysP O R n)) : out = byP O R n 4001 := by
  refine rises_uniq stoW _ _ h1 (byP_rises O R n 4001) fun x => ?_
  rw [hp.mem_iff, waysP_mem, byP_mem]
  constructor
  · rintro ⟨v, h, rfl⟩
    have := hw v h
    exact ⟨v, h, rfl, by omega, by omega⟩
  · rintro ⟨v, h, rfl, _⟩; exact ⟨v, h, rfl⟩
end Go.Proofs.YtkekibnhmfmhmaaGreat
/- The order of hits (chapter 9), in plain Lean. -/
namespace Go.Proofs.YtkekibnhmfmhmaaGreat
open Go Go.RowKit
/-- the nearer first; of as near ones the lesser place -/
def ltN (a b : Int × Int) : Bool := decide (a.2 < b.2) || (decide (a.2 = b.2) && decide (a.1 < b.1))
theorem ltN_iff {a b : Int × Int} : ltN a b = true ↔ a.2 < b.2 ∨ (a.2 = b.2 ∧ a.1 < b.1) := by
  unfold ltN
  rw [Bool.or_eq_true, Bool.and_eq_true, decide_eq_true_eq, decide_eq_true_eq, decide_eq_true_eq]
theorem ltN_no {a b : Int × Int} : ltN a b = false ↔ ¬ (a.2 < b.2 ∨ (a.2 = b.2 ∧ a.1 < b.1)) := by
  rw [← ltN_iff]; simp
theorem stoN : STO ltN where
  irrefl a := by rw [ltN_no]; omega
  trans a b c h k := by rw [ltN_iff] at *; omega
  tri a b h k := by rw [ltN_no] at *; exact Prod.ext (by omega) (by omega)
end Go.Proofs.YtkekibnhmfmhmaaGreat
/- What is near (chapter 9), in plain Lean: places that are near enough, in their order. -/
namespace Go.Proofs.YtkekibnhmfmhmaaGreat
open Go Go.RowKit
/-- a place that has a level, and no greater one -/
def goodN (d : List Int) (rad v : Int) : Bool := decide (0 ≤ v) && decide (v < d.length) && decide (0 ≤ nth d v.toNat) && decide (nth d v.toNat ≤ rad)
theorem goodN_iff {d : List Int} {rad v : Int} : goodN d rad v = true ↔ 0 ≤ v ∧ v < d.length ∧ 0 ≤ nth d v.toNat ∧ nth d v.toNat ≤ rad := by
  unfold goodN
  rw [Bool.and_eq_true, Bool.and_eq_true, Bool.and_eq_true, decide_eq_true_eq, decide_eq_true_eq, decide_eq_true_eq, decide_eq_true_eq]
  constructor
  · rintro ⟨⟨⟨h1, h2⟩, h3⟩, h4⟩; exact ⟨h1, h2, h3, h4⟩
  · rintro ⟨h1, h2, h3, h4⟩; exact ⟨⟨⟨h1, h2⟩, h3⟩, h4⟩
def hitN (d : List Int) (v : Int) : Int × Int := (v, nth d v.toNat)
/-- the hits of places, as they come -/
def gatN (d : List Int) (rad : Int) (P : List Int) : List (Int × Int) := (P.filter (goodN d rad)).map (hitN d)
theorem gatN_snoc (d : List Int) (rad : Int) (P : List Int) (v : Int) : gatN d rad (P ++ [v]) = if goodN d rad v = true then gatN d rad P ++ [hitN d v] else gatN d rad P := by
  unfold gatN
  rw [List.filter_append, List.map_append]
  by_cases h : goodN d rad v = true
  · rw [if_pos h]; simp [h]
  · rw [if_neg h]; simp [h]
theorem gatN_mem {d : List Int} {rad : Int} {P : List Int} {x : Int × Int} : x ∈ gatN d rad P ↔ ∃ v ∈ P, goodN d rad v = true ∧ x = (v, nth d v.toNat) := by
  unfold gatN
  rw [List.mem_map]
  constructor
  · rintro ⟨v, h, rfl⟩
    rw [List.mem_filter] at h
    exact ⟨v, h.1, h.2, rfl⟩
  · rintro ⟨v, h1, h2, rfl⟩
    exact ⟨v, List.mem_filter.2 ⟨h1, h2⟩, rfl⟩
theorem gatN_nodup {d : List Int} {rad : Int} {P : List Int} (h : P.Nodup) : (gatN d rad P).Nodup := by
  unfold gatN
  have h1 : (P.filter (goodN d rad)).Nodup := h.filter _
  unfold List.Nodup at h1 ⊢
  exact List.pairwise_map.2 (h1.imp fun {a b} hne e => hne (congrArg Prod.fst e))
theorem gatN_len (d : List Int) (rad : Int) (P : List Int) : (gatN d rad P).length ≤ P.length := by
  unfold gatN
  rw [List.length_map]
  exact List.length_filter_le _ _
theorem gatN_take (d : List Int) (rad : Int) {P : List Int} {k : Nat} (hk : k < P.length) : gatN d rad (P.take (k + 1)) = if goodN d rad (nth P k) = true then gatN d rad (P.take k) ++ [hitN d (nth P k)] else gatN d rad (P.take k) := by
  rw [take_succ_nth P k hk, gatN_snoc]
/-- one is put in its place: behind all that it does not come ahead of -/
def atN (x : Int × Int) : List (Int × Int) → Nat
  | [] => 0
  | y :: l => if ltN x y = true then 0 else atN x l + 1
theorem atN_le (x : Int × Int) : ∀ l, atN x l ≤ l.length
  | [] => Nat.le_refl _
  | y :: l => by
    rw [atN]
    split
    · exact Nat.zero_le _
    · rw [List.length_cons]; exact Nat.succ_le_succ (atN_le x l)
theorem atN_before {x : Int × Int} : ∀ {l : List (Int × Int)} {i : Nat}, i < atN x l → ltN x (nth l i) = false
  | [], i, h => by rw [atN] at h; omega
  | y :: l, i, h => by
    rw [atN] at h
    by_cases e : ltN x y = true
    · rw [if_pos e] at h; omega
    · rw [if_neg e] at h
      cases i with
      | zero => show ltN x y = false; simpa using e
      | succ i => exact atN_before (l := l) (by omega)
theorem atN_at {x : Int × Int} : ∀ {l : List (Int × Int)}, atN x l < l.length → ltN x (nth l (atN x l)) = true
  | [], h => by simp at h
  | y :: l, h => by
    rw [atN] at h ⊢
    by_cases e : ltN x y = true
    · rw [if_pos e]; exact e
    · rw [if_neg e] at h ⊢
      exact atN_at (l := l) (by rw [List.length_cons] at h; omega)
theorem atN_eq {x : Int × Int} {l : List (Int × Int)} {k : Nat} (hk : k ≤ l.length) (h1 : ∀ i, i < k → ltN x (nth l i) = false) (h2 : k < l.length → ltN x (nth l k) = true) : k = atN x l := by
  have ha := atN_le x l
  rcases Nat.lt_trichotomy k (atN x l) with h | h | h
  · have := atN_before h
    rw [h2 (by omega)] at this; cases this
  · exact h
  · have := h1 _ h
    rw [atN_at (by omega)] at this; cases this
def putN (x : Int × Int) (l : List (Int × Int)) : List (Int × Int) := l.take (atN x l) ++ ([x] ++ l.drop (atN x l))
theorem putN_len (x : Int × Int) (l : List (Int × Int)) : (putN x l).length = l.length + 1 := by
  have := atN_le x l
  unfold putN
  rw [List.length_append, List.length_append, List.length_take, List.length_drop, List.length_singleton]
  omega
theorem putN_perm (x : Int × Int) (l : List (Int × Int)) : (putN x l).Perm (l ++ [x]) := by
  unfold putN
  have h : (l.take (atN x l) ++ ([x] ++ l.drop (atN x l))).Perm (l.take (atN x l) ++ (l.drop (atN x l) ++ [x])) := List.Perm.append_left _ List.perm_append_comm
  refine h.trans ?_
  rw [← List.append_assoc, List.take_append_drop]
theorem putN_rises {x : Int × Int} {l : List (Int × Int)} (h : Rises ltN l) (hx : x ∉ l) : Rises ltN (putN x l) := by
  unfold putN
  have hs : Rises ltN (l.take (atN x l) ++ l.drop (atN x l)) := by rw [List.take_append_drop]; exact h
  rw [Rises, List.pairwise_append] at hs
  obtain ⟨h1, h2, h3⟩ := hs
  have hdrop : ∀ y ∈ l.drop (atN x l), ltN x y = true := fun y hy => by
    obtain ⟨i, hi, rfl⟩ := List.getElem_of_mem hy
    rw [List.length_drop] at hi
    have h0 := atN_at (x := x) (l := l) (by omega)
    rw [List.getElem_drop]
    by_cases e : i = 0
    · subst e; rw [nth_eq (by omega)] at h0; simpa using h0
    · have hp := List.pairwise_iff_getElem.1 h (atN x l) (atN x l + i) (by omega) (by omega) (by omega)
      rw [nth_eq (by omega)] at h0
      exact stoN.trans _ _ _ h0 hp
  have htake : ∀ y ∈ l.take (atN x l), ltN y x = true := fun y hy => by
    obtain ⟨i, hi, rfl⟩ := List.getElem_of_mem hy
    rw [List.length_take] at hi
    have h0 := atN_before (x := x) (l := l) (i := i) (by omega)
    rw [nth_eq (by omega)] at h0
    rw [List.getElem_take]
    cases hc : ltN l[i] x with
    | true => rfl
    | false =>
      have := stoN.tri _ _ hc h0
      exact absurd (this ▸ List.getElem_mem _) hx
  rw [Rises, List.pairwise_append]
  refine ⟨h1, ?_, fun a ha b hb => ?_⟩
  · rw [List.singleton_append, List.pairwise_cons]
    exact ⟨hdrop, h2⟩
  · rcases List.mem_append.1 hb with hb | hb
    · rw [List.mem_singleton] at hb; subst hb; exact htake a ha
    · exact h3 a ha b hb
/-- all are put, one by one -/
def sortN (l : List (Int × Int)) : List (Int × Int) := l.foldl (fun acc x => putN x acc) []
theorem sortN_snoc (l : List (Int × Int)) (x : Int × Int) : sortN (l ++ [x]) = putN x (sortN l) := by simp [sortN]
theorem snoc_indN {α : Type} {p : List α → Prop} (nil : p []) (snoc : ∀ l x, p l → p (l ++ [x])) (l : List α) : p l := by
  have h : ∀ m : List α, p m.reverse := fun m => by
    induction m with
    | nil => exact nil
    | cons a m ih => rw [List.reverse_cons]; exact snoc _ _ ih
  have := h l.reverse
  rwa [List.reverse_reverse] at this
theorem sortN_perm : ∀ l, (sortN l).Perm l := by
  refine snoc_indN (List.Perm.refl _) fun l x ih => ?_
  rw [sortN_snoc]
  exact (putN_perm _ _).trans (ih.append_right _)
theorem sortN_len (l : List (Int × Int)) : (sortN l).length = l.length := (sortN_perm l).length_eq
theorem sortN_rises : ∀ l : List (Int × Int), l.Nodup → Rises ltN (sortN l) := by
  refine snoc_indN (fun _ => List.Pairwise.nil) fun l x ih h => ?_
  rw [sortN_snoc]
  rw [List.nodup_append] at h
  refine putN_rises (ih h.1) fun hx => ?_
  exact h.2.2 x ((sortN_perm l).mem_iff.1 hx) x (by simp) rfl
/-- what rises, and is the same, is this -/
theorem sortN_uniq {l out : List (Int × Int)} (hn : l.Nodup) (h1 : Rises ltN out) (hp : out.Perm l) : out = sortN l :=
  rises_uniq stoN _ _ h1 (sortN_rises l hn) fun x => by rw [hp.mem_iff, (sortN_perm l).mem_iff]
end Go.Proofs.YtkekibnhmfmhmaaGreat
/- The program's heap of places (chapter 11): its methods. -/
namespace Go.Proofs.YtkekibnhmfmhmaaGreat
open Go Go.RowKit
end Go.Proofs.YtkekibnhmfmhmaaGreat
/- The program's heap of places (chapter 11): Swap. -/
namespace Go.Proofs.YtkekibnhmfmhmaaGreat
open Go Go.RowKit
theorem pc_set {Γ : List Pc} {j : Nat} {p q : Pc} (h : Γ[j]? = some p) : (Γ.set j q)[j]? = some q := by
  have := (List.getElem?_eq_some_iff.1 h).1
  rw [List.getElem?_set, if_pos rfl, if_pos this]
theorem encE_set2 {X : List (Int × Int)} {i : Nat} (x : Int × Int) (h : i < X.length) : encE (X.set i x) = ((encE X).set (i * 2) (.int .i64 x.1)).set (i * 2 + 1) (.int .i64 x.2) := by
  rw [← encE_set X i x h]
  have hl := encE_len X
  have e : encE X = (encE X).take (i * 2) ++ (encE X).drop (i * 2) := (List.take_append_drop _ _).symm
  apply List.ext_getElem?
  intro m
  rw [List.getElem?_set, List.getElem?_set]
  simp only [List.length_set, List.getElem?_append, List.length_append, List.length_take, List.length_cons, List.length_nil, List.getElem?_take, List.getElem?_drop]
  by_cases h1 : m < i * 2
  · rw [if_pos (by omega), if_pos (by omega), if_pos h1, if_neg (by omega), if_neg (by omega)]
  · by_cases h2 : m = i * 2
    · subst h2
      rw [if_pos (by omega), if_neg (by omega), if_neg (by omega), if_pos rfl, if_pos (by omega), show i * 2 - min (i * 2) (encE X).length = 0 by omega]; rfl
    · by_cases h3 : m = i * 2 + 1
      · subst h3
        rw [if_pos (by omega), if_neg (by omega), if_pos rfl, if_pos (by omega), show i * 2 + 1 - min (i * 2) (encE X).length = 1 by omega]; rfl
      · rw [if_neg (by omega), if_neg (by omega), if_neg (by omega)]
        congr 1; omega
theorem set_again (l : List Value) (m : Nat) (a b : Value) : (((l.set m a).set (m + 1) b).set m a).set (m + 1) b = (l.set m a).set (m + 1) b := by
  rw [List.set_comm b a (by omega : m + 1 ≠ m), List.set_set, List.set_set]
theorem encE_swap {X : List (Int × Int)} {i k : Nat} (hi : i < X.length) (hk : k < X.length) (_ : i ≠ k) : ((((encE X).set (i * 2) (.int .i64 (nth X k).1)).set (i * 2 + 1) (.int .i64 (nth X k).2)).set (k * 2) (.int .i64 (nth X i).1)).set (k * 2 + 1) (.int .i64 (nth X i).2) = encE (swapL X i k) := by
  unfold swapL
  rw [encE_set2 _ (by simpa using hk), encE_set2 _ hi]
end Go.Proofs.YtkekibnhmfmhmaaGreat
/- An own row is small. -/
namespace Go.Proofs.YtkekibnhmfmhmaaGreat
open Go Go.RowKit
theorem own_sm {w : World} {base : Nat} {e : TypeId} {size : Nat} {q : Option Addr} {n c : Nat} {xs : List Value} (h : w.ownsRow base e size (.slice q n c) n xs) : n ≤ 9223372036854775807 := by
  rcases h.2 with ⟨_, h2⟩ | ⟨g, cap, cur, h1, _, _, h3, h4, _⟩
  · omega
  · unfold maxLen at h4; omega
theorem Sep.rdx {w0 w : World} {Γ : List Pc} (S : Sep w0 w Γ) (i : Nat) {e : TypeId} {size : Nat} {q : Option Addr} {n c : Nat} {xs : List Value} (h : Γ[i]? = some (.own e size q n c xs)) : Rd w size q n xs := Rd.of_own (S.own i h) (own_sm (S.own i h))
end Go.Proofs.YtkekibnhmfmhmaaGreat
/- The program's heap of places (chapter 11): Push, Pop. -/
namespace Go.Proofs.YtkekibnhmfmhmaaGreat
open Go Go.RowKit
attribute [local go_sem] Oper.semAt_some
/-- the builtin append, by what it yields -/
theorem operwp_append {P : Program} {o : Oper} {a : Act} {w w' : World} {K : Act → World → Prop} {Q : Exit → Act → World → Prop} (s x : Operand) (t : TypeId) {vs vx v : Value}
    (ho : o.op = .call { callee := .builtin .append, args := #[s, x], argTypes := #[t, t] }) (hs : a.eval s = vs) (hx : a.eval x = vx) (hrun : (Builtin.append_ #[t, t] o.type #[vs, vx]).run P w = .ok v w') (h : K (a.put o.dst v) w') : o.wp P a w K Q := by
  unfold Oper.wp execOp
  simp only [ho, resolve, invoke, builtin, Sem.run_bind, Sem.run_pure, Result.andThen_ok, List.map_toArray, List.map_cons, List.map_nil, hs, hx, hrun]
  exact h
theorem two_set {p0 p1 : Pc} {Γ : List Pc} {j jb : Nat} (h : j ≠ jb) {a b : Pc} (hb : Γ[jb]? = some b) : ((p0 :: p1 :: Γ).set (j + 2) a)[jb + 2]? = some b := by
  rw [List.getElem?_set_ne (by omega)]; exact hb
theorem Sep.alrw {w0 w : World} {Γ : List Pc} (S : Sep w0 w Γ) (cs : Array Value) (e : TypeId) (size n g : Nat) (hg : w.heap.size = g) (hm : n ≤ maxLen) (hs : cs.size = n * size) : Sep w0 (w.alloc (.cells cs e)) (.own e size (some ⟨g, 0, none⟩) n n cs.toList :: Γ) := by
  subst hg
  exact S.fresh (Ext.alloc (Below.refl _ _) _) (World.ownsRow_lit w cs n (Nat.le_refl _) hm hs) (Nat.le_refl _)
theorem Sep.appended {w0 w : World} {Γ : List Pc} (S : Sep w0 w Γ) (j : Nat) (t ty e : TypeId) (i : TypeInfo) (z : Value) (size bytes : Nat) (ht : (Tryz.prog).underlying t = some (.slice e)) (hi : (Tryz.prog).info? e = some i) (hz : i.zero = some z)
    (hsize : i.size = size) (hby : i.bytes = bytes) (hzs : z.cells.size = size) (hsz : 0 < size)
    (q : Option Addr) (n cq : Nat) (xs : List Value) (hj : Γ[j]? = some (.own e size q n cq xs)) (A : Option Addr) (m c : Nat) (news : List Value) (hr : Rd w size A m news) (h1 : ∀ u ∈ news, u.oneCell' = true)
    (hbytes : (n + m) * bytes ≤ 140737488355328) (h63 : n + m ≤ 140737488355328) :
    ∃ q' c' w', (Builtin.append_ #[t, t] ty #[.slice q n cq, .slice A m c]).run Tryz.prog w = .ok (.slice q' (n + m) c') w' ∧ Sep w0 w' (Γ.set j (.own e size q' (n + m) c' (xs ++ news))) := by
  obtain ⟨q', c', w', hrun, ho', hg, hat, _⟩ := run_append_rd (P := Tryz.prog) w w0.heap.size t ty e i z size bytes ht hi hz hsize hby hzs hsz q n cq xs (S.own j hj) A m c news hr h1 hbytes h63 S.ext.size
  refine ⟨q', c', w', hrun, S.put j hj _ hg (fun k hk => hk) (own_base ho' (Nat.zero_le _)) fun k hk => ?_⟩
  rcases hat with h | h
  · exact .inl (h.symm.trans hk)
  · have : some w.heap.size = some k := h.symm.trans hk
    injection this with this
    exact .inr (by omega)
theorem Sep.cut {w0 w : World} {Γ : List Pc} (S : Sep w0 w Γ) (j : Nat) {e : TypeId} {size n c : Nat} {q : Option Addr} {xs ys : List Value} (k : Nat) (hj : Γ[j]? = some (.own e size q n c (xs ++ ys))) (hk : xs.length = k * size) (hkn : k ≤ n) : Sep w0 w (Γ.set j (.own e size q k c xs)) :=
  S.put j hj _ (row := none) (World.grownBy.refl _ _) (fun _ h => nomatch h) (own_base (own_take (S.own j hj) hk hkn) (Nat.zero_le _)) fun _ hk => .inl hk
end Go.Proofs.YtkekibnhmfmhmaaGreat
/- Calls through heap.Interface on the program's places: which method, at which value. -/
namespace Go.Proofs.YtkekibnhmfmhmaaGreat
open Go Go.RowKit
theorem wnc (s : String) (a : Addr) (xt : TypeId) (W : World) : (Builtin.ssaWrapNilChk_ #[xt] xt #[.pointer (some a), strVal "", strVal s]).run Tryz.prog W = .ok (.pointer (some a)) W := by kernel_rfl
end Go.Proofs.YtkekibnhmfmhmaaGreat
/- The library's heap (container/heap) on the program's places: up, down, Push, Pop. -/
namespace Go.Proofs.YtkekibnhmfmhmaaGreat
open Go Go.RowKit
attribute [local go_sem] Oper.semAt_some
theorem set_same {Γ : List Pc} {j : Nat} {p : Pc} (h : Γ[j]? = some p) : Γ.set j p = Γ := by
  obtain ⟨h1, h2⟩ := List.getElem?_eq_some_iff.1 h
  rw [← h2, List.set_getElem_self]
theorem swapL_comm {α : Type} [Inhabited α] (X : List α) {i k : Nat} (h : i ≠ k) : swapL X i k = swapL X k i := by
  unfold swapL
  exact List.set_comm _ _ h
end Go.Proofs.YtkekibnhmfmhmaaGreat
/- The library's heap (container/heap) on the program's places: down. -/
namespace Go.Proofs.YtkekibnhmfmhmaaGreat
open Go Go.RowKit
attribute [local go_sem] Oper.semAt_some
end Go.Proofs.YtkekibnhmfmhmaaGreat
/- The library's heap (container/heap) on the program's places: Push, Pop. -/
namespace Go.Proofs.YtkekibnhmfmhmaaGreat
open Go Go.RowKit
attribute [local go_sem] Oper.semAt_some
theorem set_two {Γ : List Pc} {j jb : Nat} (h : j ≠ jb) (a a' b : Pc) : ((Γ.set j a).set jb b).set j a' = (Γ.set j a').set jb b := by
  rw [List.set_comm _ _ h, List.set_set, List.set_comm _ _ (fun e => h e.symm)]
theorem heap_snoc {n : Nat} {X : List (Int × Int)} {x : Int × Int} (hn : n = X.length) (h : HeapN ltW n X) : UpH ltW (n + 1) n (X ++ [x]) := by
  refine up_start fun i h0 h1 => ?_
  rw [nth_append_left _ _ _ (by omega), nth_append_left _ _ _ (by omega)]
  exact h i h0 h1
end Go.Proofs.YtkekibnhmfmhmaaGreat
/- The heap of near.hits (written by genhp.py out of Hp1). -/
namespace Go.Proofs.YtkekibnhmfmhmaaGreat
open Go Go.RowKit
theorem nHLen (q : Option Addr) (n c : Nat) (w : World) (hn : n ≤ 9223372036854775807) : Calls Tryz.prog 242 #[.slice q n c] w fun e w' => e = .returned (.int .i64 n) ∧ w' = w := by
  have _u := hn
  clear _u
  go_enter Tryz.func242, Tryz.ntmps242
  go_wp2
  go_ret
  exact ⟨rfl, rfl⟩

set_option maxRecDepth 100000 in
set_option maxHeartbeats 4000000 in
theorem nHLess (q : Option Addr) (n c : Nat) (X : List (Int × Int)) (i k : Nat) (w : World) (hl : Rd w 2 q n (encE X)) (hi : i < n) (hk : k < n) :
    Calls Tryz.prog 243 #[.slice q n c, .int .i64 i, .int .i64 k] w fun e w' => e = .returned (.bool (ltN (nth X i) (nth X k))) ∧ Ext w w' := by
  have p1 := hl.ptr
  have n2 := hl.small
  have g1 := hl.cE2 hi
  have g2 := hl.cE2 hk
  have g3 := hl.cE hi
  have g4 := hl.cE hk
  have d1 : (0:Int) ≤ i := by omega
  have d2 : (i:Int) < n := by omega
  have d3 : (0:Int) ≤ k := by omega
  have d4 : (k:Int) < n := by omega
  unfold ltN
  generalize nth X i = a at *
  generalize nth X k = b at *
  clear hl hi hk
  have S0 := Lib.hid (Sep.start w)
  by_cases h1 : a.2 < b.2
  · have e1 : decide (a.2 < b.2) = true := by simpa using h1
    rw [e1, Bool.true_or]
    go_enter Tryz.func243, Tryz.ntmps243
    go_wp2
    have u1 := fun x : ExtOf w => x.ext.cell g1
    have u2 := fun x : ExtOf w => x.ext.cell g2
    have u3 := fun x : ExtOf w => x.ext.cell g3
    have u4 := fun x : ExtOf w => x.ext.cell g4
    refine wp_region_ext (by kernel_rfl) (by kernel_rfl) ?_
    repeat (go_big_quiet_step ((fail)))
    refine wpQuiet_nil ?_
    rintro w9 ⟨⟨_, hb9⟩, rfl⟩
    go_wp2
    go_ret
    exact ⟨rfl, hb9⟩
  · have e1 : decide (a.2 < b.2) = false := by simpa using h1
    rw [e1, Bool.false_or]
    by_cases h2 : a.2 = b.2
    · have e2 : (a.2 == b.2) = true := by simpa using h2
      rw [decide_eq_true h2, Bool.true_and]
      clear h1 h2
      go_enter Tryz.func243, Tryz.ntmps243
      go_wp2
      have u1 := fun x : ExtOf w => x.ext.cell g1
      have u2 := fun x : ExtOf w => x.ext.cell g2
      have u3 := fun x : ExtOf w => x.ext.cell g3
      have u4 := fun x : ExtOf w => x.ext.cell g4
      refine wp_region_ext (by kernel_rfl) (by kernel_rfl) ?_
      repeat (go_big_quiet_step ((fail)))
      refine wpQuiet_nil ?_
      rintro w9 ⟨⟨_, hb9⟩, rfl⟩
      go_wp2
      go_ret
      exact ⟨rfl, hb9⟩
    · have e2 : (a.2 == b.2) = false := by simpa using h2
      rw [decide_eq_false h2, Bool.false_and]
      clear h1 h2
      go_enter Tryz.func243, Tryz.ntmps243
      go_wp2
      have u1 := fun x : ExtOf w => x.ext.cell g1
      have u2 := fun x : ExtOf w => x.ext.cell g2
      have u3 := fun x : ExtOf w => x.ext.cell g3
      have u4 := fun x : ExtOf w => x.ext.cell g4
      refine wp_region_ext (by kernel_rfl) (by kernel_rfl) ?_
      repeat (go_big_quiet_step ((fail)))
      refine wpQuiet_nil ?_
      rintro w9 ⟨⟨_, hb9⟩, rfl⟩
      go_wp2
      go_ret
      exact ⟨rfl, hb9⟩
end Go.Proofs.YtkekibnhmfmhmaaGreat
/- The heap of near.hits (written by genhp.py out of Hp2). -/
namespace Go.Proofs.YtkekibnhmfmhmaaGreat
open Go Go.RowKit
set_option maxRecDepth 100000 in
set_option maxHeartbeats 4000000 in
theorem nHSwapNe (g n c : Nat) (X : List (Int × Int)) (i k : Nat) (w w0 : World) (Γ : List Pc) (j : Nat) (S : Sep w0 w Γ) (hj : Γ[j]? = some (.own 61 2 (some ⟨g, 0, none⟩) n c (encE X))) (hi : i < n) (hk : k < n) (hik : i ≠ k) (hn : n ≤ 1000000) :
    Calls Tryz.prog 246 #[.slice (some ⟨g, 0, none⟩) n c, .int .i64 i, .int .i64 k] w fun e w' => e = .returned (.tuple #[]) ∧ Sep w0 w' (Γ.set j (.own 61 2 (some ⟨g, 0, none⟩) n c (encE (swapL X i k)))) := by
  have ho := S.own j hj
  have hl := S.rd j hj (by omega)
  have g1 := hl.cE2 hi
  have g2 := hl.cE2 hk
  have g3 := hl.cE hi
  have g4 := hl.cE hk
  rw [adr_some, Nat.zero_add] at g1 g2 g3 g4
  have k1 : w.frozen? ⟨g, i * 2, none⟩ = false := by have := own_frozen ho (by omega) (i * 2); rwa [adr_some, Nat.zero_add] at this
  have k2 : w.frozen? ⟨g, i * 2 + 1, none⟩ = false := by have := own_frozen ho (by omega) (i * 2 + 1); rwa [adr_some, Nat.zero_add] at this
  have k3 : w.frozen? ⟨g, k * 2, none⟩ = false := by have := own_frozen ho (by omega) (k * 2); rwa [adr_some, Nat.zero_add] at this
  have k4 : w.frozen? ⟨g, k * 2 + 1, none⟩ = false := by have := own_frozen ho (by omega) (k * 2 + 1); rwa [adr_some, Nat.zero_add] at this
  have z1 : g < w.heap.size := (S.blt j hj (by omega)).2
  have d1 : (0:Int) ≤ i := by omega
  have d2 : (i:Int) < n := by omega
  have d3 : (0:Int) ≤ k := by omega
  have d4 : (k:Int) < n := by omega
  have x1 : i * 2 ≠ k * 2 := by omega
  have x2 : i * 2 + 1 ≠ k * 2 := by omega
  have x3 : i * 2 ≠ k * 2 + 1 := by omega
  have x4 : i * 2 + 1 ≠ k * 2 + 1 := by omega
  have hnX := hl.nE
  have HX := Lib.hid (encE_swap (X := X) (i := i) (k := k) (by rw [← hnX]; exact hi) (by rw [← hnX]; exact hk) hik)
  generalize nth X i = a at *
  generalize nth X k = b at *
  clear hl ho
  have SH := Lib.hid S; clear S
  have mixed : (Tryz.prog).follows Departure.mixedOrders = true := by kernel_rfl
  clear hnX
  go_enter Tryz.func246, Tryz.ntmps246
  go_wp2
  go_region_o
  all_goals
    go_end0
    refine ⟨rfl, ?_⟩
    have T := ((SH.out.setRow2 j hj (i * 2) (by omega) (.int .i64 b.1) (.int .i64 b.2)).setRow2 j (pc_set hj) (k * 2) (by omega) (.int .i64 a.1) (.int .i64 a.2)).drew
    simp only [adr_some, Nat.zero_add, List.set_set] at T
    rw [← HX.out]
    exact T
set_option maxRecDepth 100000 in
set_option maxHeartbeats 4000000 in
theorem nHSwapEq (g n c : Nat) (X : List (Int × Int)) (i : Nat) (w w0 : World) (Γ : List Pc) (j : Nat) (S : Sep w0 w Γ) (hj : Γ[j]? = some (.own 61 2 (some ⟨g, 0, none⟩) n c (encE X))) (hi : i < n) (hn : n ≤ 1000000) :
    Calls Tryz.prog 246 #[.slice (some ⟨g, 0, none⟩) n c, .int .i64 i, .int .i64 i] w fun e w' => e = .returned (.tuple #[]) ∧ Sep w0 w' (Γ.set j (.own 61 2 (some ⟨g, 0, none⟩) n c (encE (swapL X i i)))) := by
  have ho := S.own j hj
  have hl := S.rd j hj (by omega)
  have g1 := hl.cE2 hi
  have g3 := hl.cE hi
  rw [adr_some, Nat.zero_add] at g1 g3
  have k1 : w.frozen? ⟨g, i * 2, none⟩ = false := by have := own_frozen ho (by omega) (i * 2); rwa [adr_some, Nat.zero_add] at this
  have k2 : w.frozen? ⟨g, i * 2 + 1, none⟩ = false := by have := own_frozen ho (by omega) (i * 2 + 1); rwa [adr_some, Nat.zero_add] at this
  have z1 : g < w.heap.size := (S.blt j hj (by omega)).2
  have d1 : (0:Int) ≤ i := by omega
  have d2 : (i:Int) < n := by omega
  have hnX := hl.nE
  have HX : Hid (encE (X.set i (nth X i)) = encE (swapL X i i)) := by unfold Hid swapL; rw [List.set_set]
  rw [encE_set2 _ (by omega)] at HX
  generalize nth X i = a at *
  clear hl ho
  have SH := Lib.hid S; clear S
  have mixed : (Tryz.prog).follows Departure.mixedOrders = true := by kernel_rfl
  clear hnX
  go_enter Tryz.func246, Tryz.ntmps246
  go_wp2
  go_region_o
  all_goals
    go_end0
    refine ⟨rfl, ?_⟩
    have T := ((SH.out.setRow2 j hj (i * 2) (by omega) (.int .i64 a.1) (.int .i64 a.2)).setRow2 j (pc_set hj) (i * 2) (by omega) (.int .i64 a.1) (.int .i64 a.2)).drew
    simp only [adr_some, Nat.zero_add, List.set_set] at T
    rw [set_again] at T
    rw [← HX.out]
    exact T
theorem nHSwap (q : Option Addr) (n c : Nat) (X : List (Int × Int)) (i k : Nat) (w w0 : World) (Γ : List Pc) (j : Nat) (S : Sep w0 w Γ) (hj : Γ[j]? = some (.own 61 2 q n c (encE X))) (hi : i < n) (hk : k < n) (hn : n ≤ 1000000) :
    Calls Tryz.prog 246 #[.slice q n c, .int .i64 i, .int .i64 k] w fun e w' => e = .returned (.tuple #[]) ∧ Sep w0 w' (Γ.set j (.own 61 2 q n c (encE (swapL X i k)))) := by
  obtain ⟨g, rfl, _⟩ := own_block (S.own j hj) (by omega)
  by_cases e : i = k
  · subst e
    exact nHSwapEq g n c X i w w0 Γ j S hj hi hn
  · exact nHSwapNe g n c X i k w w0 Γ j S hj hi hk e hn
end Go.Proofs.YtkekibnhmfmhmaaGreat
/- The heap of near.hits (written by genhp.py out of Hp3). -/
namespace Go.Proofs.YtkekibnhmfmhmaaGreat
open Go Go.RowKit
attribute [local go_sem] Oper.semAt_some
/-- what is put onto the heap -/
def nplV (x : Int × Int) : Value := .iface 61 (.agg #[.int .i64 x.1, .int .i64 x.2])
theorem ntaPlace (a b : Int) (W : World) : (Instr.typeAssert (.iface 61 (.agg #[.int .i64 a, .int .i64 b])) 20 61 true).run Tryz.prog W = .ok (.tuple #[.agg #[.int .i64 a, .int .i64 b], .bool true]) W := by kernel_rfl
theorem ninfPla : ((Tryz.prog).info? 61).map (fun i => (i.zero, i.size, i.bytes)) = some (some (.agg #[.int .i64 0, .int .i64 0]), 2, 16) := by kernel_rfl
set_option maxRecDepth 100000 in
set_option maxHeartbeats 4000000 in
theorem nHPush (gb : Nat) (q : Option Addr) (n c : Nat) (X : List (Int × Int)) (x : Int × Int) (w w0 : World) (Γ : List Pc) (jb j : Nat) (S : Sep w0 w Γ) (hb : Γ[jb]? = some (.blk gb 101 #[.slice q n c])) (hj : Γ[j]? = some (.own 61 2 q n c (encE X))) (hne : jb ≠ j) (hn : n ≤ 100000) :
    Calls Tryz.prog 245 #[.pointer (some ⟨gb, 0, none⟩), nplV x] w fun e w' => e = .returned (.tuple #[]) ∧ ∃ q' c', Sep w0 w' ((Γ.set j (.own 61 2 q' (n + 1) c' (encE (X ++ [x])))).set jb (.blk gb 101 #[.slice q' (n + 1) c'])) := by
  have b0 := (S.blk jb hb).cell 0
  have bz := (S.blk jb hb).lt
  have bf := (S.blk jb hb).frozen 0
  unfold nplV
  have TA := ntaPlace x.1 x.2
  have SH := Lib.hid S; clear S
  obtain ⟨i0, hi0, hz0, hz1, hz2⟩ := info_parts ninfPla
  go_enter Tryz.func245, Tryz.ntmps245
  go_wp2
  obtain ⟨Y, hY⟩ : ∃ Y, Y = w.alloc (.cells #[.int .i64 x.1, .int .i64 x.2] 61) := ⟨_, rfl⟩
  have S1 := Lib.hid (hY ▸ SH.out.al #[.int .i64 x.1, .int .i64 x.2] 61 w.heap.size rfl : Sep w0 Y (.blk w.heap.size 61 #[.int .i64 x.1, .int .i64 x.2] :: Γ))
  rw [← hY]
  clear hY b0 bz bf
  have b0 := (S1.out.blk (jb + 1) hb).cell 0
  have bz := (S1.out.blk (jb + 1) hb).lt
  have e0 := (S1.out.blk 0 rfl).cell 0
  have e1 := (S1.out.blk 0 rfl).cell 1
  have ez := (S1.out.blk 0 rfl).lt
  have S4 := Lib.hid (S1.out.alrw #[.int .i64 x.1, .int .i64 x.2] 61 2 1 Y.heap.size rfl (by decide) rfl).drew
  obtain ⟨q', c', w7, hrun, S'⟩ := S4.out.appended (j + 2) 101 101 61 i0 _ 2 16 Tryz.underlying101 hi0 hz0 hz1 hz2 rfl (by omega) q n c (encE X) hj (some ⟨Y.heap.size, 0, none⟩) 1 1 (encE [x]) (S4.out.rdx 0 rfl) (one_encE _) (by omega) (by omega)
  have hb7 := two_set (p0 := Pc.own 61 2 (some ⟨Y.heap.size, 0, none⟩) 1 1 [.int .i64 x.1, .int .i64 x.2]) (p1 := Pc.blk w.heap.size 61 #[.int .i64 x.1, .int .i64 x.2]) (a := Pc.own 61 2 q' (n + 1) c' (encE X ++ encE [x])) (fun e => hne e.symm) hb
  have k4 := (S'.blk (jb + 2) hb7).cell 0
  have kf := (S'.blk (jb + 2) hb7).frozen 0
  have kz := (S'.blk (jb + 2) hb7).lt
  have S6 := Lib.hid S'
  have HB7 := Lib.hid hb7
  clear S' hb7 hb hj
  refine wp_region_any (by kernel_rfl) ?_
  change wpAny _ _ _ _ _ _ _ (World.drew _)
  refine wpAny_take (i := 0) (v := .pointer (some ⟨gb, 0, none⟩)) rfl (by kernel_rfl) (by kernel_rfl) (by kernel_rfl) (fun _ _ _ h => h) (Or.inl ⟨by rfl, fun W => by go_simp⟩) ?_
  refine wpAny_take (i := 1) (v := .pointer (some ⟨gb, 0, none⟩)) rfl (by kernel_rfl) (by kernel_rfl) (by kernel_rfl) (fun _ _ _ h => h) (Or.inl ⟨by rfl, fun W => by go_simp⟩) ?_
  refine wpAny_take (i := 2) (v := .pointer (some ⟨gb, 0, none⟩)) rfl (by kernel_rfl) (by kernel_rfl) (by kernel_rfl) (fun _ _ _ h => h) (Or.inl ⟨by rfl, fun W => by go_simp⟩) ?_
  refine wpAny_ready (rs := [3, 4]) (by kernel_rfl) (by simp) (AllReady.cons rfl (fun K hK => ?_) (AllReady.cons rfl (fun K hK => ?_) AllReady.nil))
  · go_simp
    refine hK _ _ ?_
    clear hK
    refine wpAny_ready (rs := [4]) (by kernel_rfl) (by simp) (AllReady.cons rfl (fun K hK => ?_) AllReady.nil)
    go_simp
    refine hK _ _ ?_
    clear hK
    refine wpAny_ready (rs := [5]) (by kernel_rfl) (by simp) (AllReady.cons rfl (fun K hK => ?_) AllReady.nil)
    go_simp
    refine hK _ _ ?_
    clear hK
    refine wpAny_ready (rs := [6]) (by kernel_rfl) (by simp) (AllReady.cons rfl (fun K hK => ?_) AllReady.nil)
    rw [if_pos (by rfl)]
    refine operwp_append (.tmp 15) (.tmp 17) 101 rfl rfl rfl hrun ?_
    refine hK _ _ ?_
    clear hK
    refine wpAny_ready (rs := [7]) (by kernel_rfl) (by simp) (AllReady.cons rfl (fun K hK => ?_) AllReady.nil)
    go_simp
    refine hK _ _ ?_
    clear hK
    refine wpAny_ready (rs := [8]) (by kernel_rfl) (by simp) (AllReady.cons rfl (fun K hK => ?_) AllReady.nil)
    go_simp
    refine hK _ _ ?_
    clear hK
    refine wpAny_done (by kernel_rfl) ?_ _
    go_end0
    refine ⟨rfl, q', c', ?_⟩
    have T := S6.out.set (jb + 2) HB7.out 0 (.slice q' (n + 1) c')
    rw [encE_append]
    exact T.sub ((List.sublist_cons_self _ _).trans (List.sublist_cons_self _ _))
  · go_simp
    refine hK _ _ ?_
    clear hK
    refine wpAny_ready (rs := [3, 5]) (by kernel_rfl) (by simp) (AllReady.cons rfl (fun K hK => ?_) (AllReady.cons rfl (fun K hK => ?_) AllReady.nil))
    · go_simp
      refine hK _ _ ?_
      clear hK
      refine wpAny_ready (rs := [5]) (by kernel_rfl) (by simp) (AllReady.cons rfl (fun K hK => ?_) AllReady.nil)
      go_simp
      refine hK _ _ ?_
      clear hK
      refine wpAny_ready (rs := [6]) (by kernel_rfl) (by simp) (AllReady.cons rfl (fun K hK => ?_) AllReady.nil)
      rw [if_pos (by rfl)]
      refine operwp_append (.tmp 15) (.tmp 17) 101 rfl rfl rfl hrun ?_
      refine hK _ _ ?_
      clear hK
      refine wpAny_ready (rs := [7]) (by kernel_rfl) (by simp) (AllReady.cons rfl (fun K hK => ?_) AllReady.nil)
      go_simp
      refine hK _ _ ?_
      clear hK
      refine wpAny_ready (rs := [8]) (by kernel_rfl) (by simp) (AllReady.cons rfl (fun K hK => ?_) AllReady.nil)
      go_simp
      refine hK _ _ ?_
      clear hK
      refine wpAny_done (by kernel_rfl) ?_ _
      go_end0
      refine ⟨rfl, q', c', ?_⟩
      have T := S6.out.set (jb + 2) HB7.out 0 (.slice q' (n + 1) c')
      rw [encE_append]
      exact T.sub ((List.sublist_cons_self _ _).trans (List.sublist_cons_self _ _))
    · go_simp
      refine hK _ _ ?_
      clear hK
      refine wpAny_ready (rs := [3]) (by kernel_rfl) (by simp) (AllReady.cons rfl (fun K hK => ?_) AllReady.nil)
      go_simp
      refine hK _ _ ?_
      clear hK
      refine wpAny_ready (rs := [6]) (by kernel_rfl) (by simp) (AllReady.cons rfl (fun K hK => ?_) AllReady.nil)
      rw [if_pos (by rfl)]
      refine operwp_append (.tmp 15) (.tmp 17) 101 rfl rfl rfl hrun ?_
      refine hK _ _ ?_
      clear hK
      refine wpAny_ready (rs := [7]) (by kernel_rfl) (by simp) (AllReady.cons rfl (fun K hK => ?_) AllReady.nil)
      go_simp
      refine hK _ _ ?_
      clear hK
      refine wpAny_ready (rs := [8]) (by kernel_rfl) (by simp) (AllReady.cons rfl (fun K hK => ?_) AllReady.nil)
      go_simp
      refine hK _ _ ?_
      clear hK
      refine wpAny_done (by kernel_rfl) ?_ _
      go_end0
      refine ⟨rfl, q', c', ?_⟩
      have T := S6.out.set (jb + 2) HB7.out 0 (.slice q' (n + 1) c')
      rw [encE_append]
      exact T.sub ((List.sublist_cons_self _ _).trans (List.sublist_cons_self _ _))
set_option maxRecDepth 100000 in
set_option maxHeartbeats 4000000 in
theorem nHPop (gb : Nat) (q : Option Addr) (n c : Nat) (X : List (Int × Int)) (w w0 : World) (Γ : List Pc) (jb j : Nat) (S : Sep w0 w Γ) (hb : Γ[jb]? = some (.blk gb 101 #[.slice q (n + 1) c])) (hj : Γ[j]? = some (.own 61 2 q (n + 1) c (encE X))) (hne : jb ≠ j) (hn : n ≤ 100000) :
    Calls Tryz.prog 244 #[.pointer (some ⟨gb, 0, none⟩)] w fun e w' => e = .returned (nplV (nth X n)) ∧ Sep w0 w' ((Γ.set j (.own 61 2 q n c (encE (X.take n)))).set jb (.blk gb 101 #[.slice q n c])) := by
  have b0 := (S.blk jb hb).cell 0
  have bz := (S.blk jb hb).lt
  have bf := (S.blk jb hb).frozen 0
  have hl := S.rd j hj (by omega)
  have hcap := own_cap (S.own j hj)
  have g1 := hl.cE (k := n) (by omega)
  have g2 := hl.cE2 (k := n) (by omega)
  have p1 := hl.ptr
  have hnX := hl.nE
  have d1 : (0:Int) ≤ n := by omega
  have d2 : (n:Int) < (n:Int) + 1 := by omega
  have HNX := Lib.hid hnX
  clear hnX
  generalize nth X n = x at *
  unfold nplV
  clear hl
  have SH := Lib.hid S; clear S
  go_enter Tryz.func244, Tryz.ntmps244
  go_wp2
  go_ret
  refine ⟨rfl, ?_⟩
  have T := (SH.out.set jb hb 0 (.slice q n c)).junk (.cells #[.int .i64 x.1, .int .i64 x.2] 61)
  have hj2 : (Γ.set jb (.blk gb 101 #[.slice q n c]))[j]? = some (.own 61 2 q (n + 1) c (encE (X.take n) ++ encE (X.drop n))) := by
    rw [← encE_append, List.take_append_drop, List.getElem?_set_ne hne]; exact hj
  have hX := HNX.out
  have T2 := Sep.cut T j n hj2 (by rw [encE_len, List.length_take]; omega) (by omega)
  rw [List.set_comm _ _ hne] at T2
  exact T2
end Go.Proofs.YtkekibnhmfmhmaaGreat
/- The heap of near.hits (written by genhp.py out of HpM). -/
namespace Go.Proofs.YtkekibnhmfmhmaaGreat
open Go Go.RowKit
theorem nrecvP (s : String) (gb : Nat) (v : Value) (W : World) (h : W.cell? ⟨gb, 0, none⟩ = some v) : (receiverAt 100 (Place.val (.pointer (some ⟨gb, 0, none⟩))) false (some s)).run Tryz.prog W = .ok v W := by
  simp only [receiverAt, Sem.run_bind]
  simp [go_sem, Place.get, wnc, loadVar, h]
theorem nmLen (gb : Nat) (v : Value) (W : World) (N : Nat) (hN : 0 < N) (h : W.cell? ⟨gb, 0, none⟩ = some v) : (method N 100 (.pointer (some ⟨gb, 0, none⟩)) "Len").run Tryz.prog W = .ok (242, v) W := by
  obtain ⟨m, rfl⟩ : ∃ m, N = m + 1 := ⟨N - 1, by omega⟩
  obtain ⟨mm, h1⟩ : ∃ mm, Array.find? (fun x => x.name == "Len") (Tryz.t100).methods = some mm := ⟨_, rfl⟩
  have h2 : (Array.find? (fun x => x.name == "Len") (Tryz.t100).methods).map (fun x => (x.path, x.func)) = some (#[], some (242, false)) := by kernel_rfl
  rw [h1] at h2
  simp at h2
  simp [method, go_sem, h1, h2, follow, nrecvP _ gb v W h]
theorem nmLess (gb : Nat) (v : Value) (W : World) (N : Nat) (hN : 0 < N) (h : W.cell? ⟨gb, 0, none⟩ = some v) : (method N 100 (.pointer (some ⟨gb, 0, none⟩)) "Less").run Tryz.prog W = .ok (243, v) W := by
  obtain ⟨m, rfl⟩ : ∃ m, N = m + 1 := ⟨N - 1, by omega⟩
  obtain ⟨mm, h1⟩ : ∃ mm, Array.find? (fun x => x.name == "Less") (Tryz.t100).methods = some mm := ⟨_, rfl⟩
  have h2 : (Array.find? (fun x => x.name == "Less") (Tryz.t100).methods).map (fun x => (x.path, x.func)) = some (#[], some (243, false)) := by kernel_rfl
  rw [h1] at h2
  simp at h2
  simp [method, go_sem, h1, h2, follow, nrecvP _ gb v W h]
theorem nmSwap (gb : Nat) (v : Value) (W : World) (N : Nat) (hN : 0 < N) (h : W.cell? ⟨gb, 0, none⟩ = some v) : (method N 100 (.pointer (some ⟨gb, 0, none⟩)) "Swap").run Tryz.prog W = .ok (246, v) W := by
  obtain ⟨m, rfl⟩ : ∃ m, N = m + 1 := ⟨N - 1, by omega⟩
  obtain ⟨mm, h1⟩ : ∃ mm, Array.find? (fun x => x.name == "Swap") (Tryz.t100).methods = some mm := ⟨_, rfl⟩
  have h2 : (Array.find? (fun x => x.name == "Swap") (Tryz.t100).methods).map (fun x => (x.path, x.func)) = some (#[], some (246, false)) := by kernel_rfl
  rw [h1] at h2
  simp at h2
  simp [method, go_sem, h1, h2, follow, nrecvP _ gb v W h]
theorem nmPush (gb : Nat) (W : World) (N : Nat) (hN : 0 < N) : (method N 100 (.pointer (some ⟨gb, 0, none⟩)) "Push").run Tryz.prog W = .ok (245, .pointer (some ⟨gb, 0, none⟩)) W := by
  obtain ⟨m, rfl⟩ : ∃ m, N = m + 1 := ⟨N - 1, by omega⟩
  kernel_rfl
theorem nmPop (gb : Nat) (W : World) (N : Nat) (hN : 0 < N) : (method N 100 (.pointer (some ⟨gb, 0, none⟩)) "Pop").run Tryz.prog W = .ok (244, .pointer (some ⟨gb, 0, none⟩)) W := by
  obtain ⟨m, rfl⟩ : ∃ m, N = m + 1 := ⟨N - 1, by omega⟩
  kernel_rfl
end Go.Proofs.YtkekibnhmfmhmaaGreat
/- The heap of near.hits (written by genhp.py out of Hp4). -/
namespace Go.Proofs.YtkekibnhmfmhmaaGreat
open Go Go.RowKit
attribute [local go_sem] Oper.semAt_some
def nhpV (gb : Nat) : Value := .iface 100 (.pointer (some ⟨gb, 0, none⟩))
set_option maxRecDepth 100000 in
set_option maxHeartbeats 4000000 in
theorem nHUp (gb : Nat) (q : Option Addr) (n c i : Nat) (X : List (Int × Int)) (w w0 : World) (Γ : List Pc) (jb j : Nat) (S : Sep w0 w Γ) (hb : Γ[jb]? = some (.blk gb 101 #[.slice q n c])) (hj : Γ[j]? = some (.own 61 2 q n c (encE X))) (hne : jb ≠ j) (hn : n ≤ 100000) (hi : i < n) (hu : UpH ltN n i X) :
    Calls Tryz.prog 96 #[nhpV gb, .int .i64 i] w fun e w' => e = .returned (.tuple #[]) ∧ ∃ X' : List (Int × Int), X'.Perm X ∧ HeapN ltN n X' ∧ Sep w0 w' (Γ.set j (.own 61 2 q n c (encE X'))) := by
  unfold nhpV
  have hnX : n = X.length := (S.rd j hj (by omega)).nE
  have HNX := Lib.hid hnX
  clear hnX
  have SH := Lib.hid S; clear S
  have HU := Lib.hid hu; clear hu
  go_enter Tryz.func96, Tryz.ntmps96
  go_wp2
  go_loopw [1, 4] (fun v1 _ wr => ∃ (k : Nat) (Y : List (Int × Int)), k < n ∧ v1 = .int .i64 k ∧ Y.Perm X ∧ UpH ltN n k Y ∧ Sep w0 wr (Γ.set j (.own 61 2 q n c (encE Y)))) (fun v1 _ _ => (intOf v1).toNat)
  case atStart => exact ⟨i, X, hi, rfl, List.Perm.refl _, HU.out, by rw [set_same hj]; exact SH.out⟩
  case round =>
    clear SH HU
    obtain ⟨k, Y, hk, rfl, hp, hu, S⟩ := hrel
    have HP := Lib.hid hp
    have HU := Lib.hid hu
    have HYL : Hid (Y.length = n) := by unfold Hid; rw [hp.length_eq]; exact HNX.out.symm
    have hb2 := (List.getElem?_set_ne (l := Γ) (a := Pc.own 61 2 q n c (encE Y)) (i := j) (j := jb) (by omega)).trans hb
    have hj2 := pc_set (q := Pc.own 61 2 q n c (encE Y)) hj
    have HB2 := Lib.hid hb2
    have b0 := (S.blk jb hb2).cell 0
    have ML := fun N hN => nmLess gb _ wr N hN b0
    by_cases h0 : k = 0
    · subst h0
      have HE := Lib.hid (up_end hu (.inl rfl))
      have SH := Lib.hid S; clear S
      clear hp hu hb2 hj2
      go_wp2
      go_end0
      exact ⟨rfl, Y, HP.out, HE.out, SH.out⟩
    · obtain ⟨p, hpp⟩ : ∃ p, (k - 1) / 2 = p := ⟨_, rfl⟩
      have hpk : p < k := by omega
      have e1 : ((k:Int) - 1).tdiv 2 = (p:Int) := by
        rw [Int.tdiv_eq_ediv_of_nonneg (by omega)]; omega
      have e2 : ((p:Int) == (k:Int)) = false := by simp; omega
      have hL := nHLess q n c Y k p wr (S.rd j hj2 (by omega)) hk (by omega)
      cases hlt : ltN (nth Y k) (nth Y p) with
      | false =>
        rw [hlt] at hL
        have HE := Lib.hid (up_end hu (.inr (by rw [hpp]; exact hlt)))
        have HL := Lib.hid hL
        have SH := Lib.hid S; clear S
        clear hp hu hb2 hj2 hL hlt hpp h0
        go_wp2_with (go_at_call 243; go_must (refine HL.out.mono ?_; rintro e w5 ⟨rfl, h5⟩; have S5 := Lib.hid (SH.out.call h5); have b5 := (S5.out.blk jb HB2.out).cell 0; have MS := fun N hN => nmSwap gb _ w5 N hN b5; clear h5))
        go_end0
        exact ⟨rfl, Y, HP.out, HE.out, S5.out⟩
      | true =>
        rw [hlt] at hL
        have HE := Lib.hid (hpp ▸ up_step stoN (by rw [HYL.out]; exact Nat.le_refl _) hk (by omega) hu (by rw [hpp]; exact hlt) : UpH ltN n p (swapL Y k p))
        have HJ2 := Lib.hid hj2
        have HPM := Lib.hid (swapL_perm (X := Y) (i := k) (j := p) (by rw [HYL.out]; exact hk) (by rw [HYL.out]; omega))
        have HL := Lib.hid hL
        have SH := Lib.hid S; clear S
        clear hp hu hb2 hj2 hL hlt hpp h0
        have hkp : p ≠ k := by omega
        go_wp2_with (first
          | (go_at_call 246; go_must (refine (nHSwap q n c Y p k w5 w0 _ j S5.out HJ2.out (by omega) hk (by omega)).mono ?_; rintro e w6 ⟨rfl, T⟩; rw [List.set_set, swapL_comm Y hkp] at T; have S6 := Lib.hid T; clear T))
          | (go_at_call 243; go_must (refine HL.out.mono ?_; rintro e w5 ⟨rfl, h5⟩; have S5 := Lib.hid (SH.out.call h5); have b5 := (S5.out.blk jb HB2.out).cell 0; have MS := fun N hN => nmSwap gb _ w5 N hN b5; clear h5)))
        go_roundw
        case rel => exact ⟨p, swapL Y k p, by omega, rfl, HPM.out.trans HP.out, HE.out, S6.out⟩
        case measure => simp [intOf]; omega
end Go.Proofs.YtkekibnhmfmhmaaGreat
/- The heap of near.hits (written by genhp.py out of Hp5). -/
namespace Go.Proofs.YtkekibnhmfmhmaaGreat
open Go Go.RowKit
attribute [local go_sem] Oper.semAt_some
set_option maxRecDepth 100000 in
set_option maxHeartbeats 8000000 in
theorem nHDown (gb : Nat) (q : Option Addr) (n m c : Nat) (X : List (Int × Int)) (w w0 : World) (Γ : List Pc) (jb j : Nat) (S : Sep w0 w Γ) (hb : Γ[jb]? = some (.blk gb 101 #[.slice q m c])) (hj : Γ[j]? = some (.own 61 2 q m c (encE X))) (hne : jb ≠ j) (hm : m ≤ 100000) (hnm : n ≤ m) (hu : DnH ltN n 0 X) :
    Calls Tryz.prog 129 #[nhpV gb, .int .i64 0, .int .i64 n] w fun e w' => ∃ bb, e = .returned (.bool bb) ∧ ∃ X' : List (Int × Int), X'.Perm X ∧ HeapN ltN n X' ∧ (∀ z, n ≤ z → z < m → nth X' z = nth X z) ∧ Sep w0 w' (Γ.set j (.own 61 2 q m c (encE X'))) := by
  unfold nhpV
  have hnX : m = X.length := (S.rd j hj (by omega)).nE
  have HNX := Lib.hid hnX
  clear hnX
  have SH := Lib.hid S; clear S
  have HU := Lib.hid hu; clear hu
  go_enter Tryz.func129, Tryz.ntmps129
  go_wp2
  go_loopw [7, 8, 9, 10] (fun v7 _ _ _ wr => ∃ (k : Nat) (Y : List (Int × Int)), k ≤ n ∧ v7 = .int .i64 k ∧ Y.Perm X ∧ DnH ltN n k Y ∧ (∀ z, n ≤ z → z < m → nth Y z = nth X z) ∧ Sep w0 wr (Γ.set j (.own 61 2 q m c (encE Y)))) (fun v7 _ _ _ _ => n - (intOf v7).toNat)
  case atStart => exact ⟨0, X, Nat.zero_le _, rfl, List.Perm.refl _, HU.out, fun _ _ _ => rfl, by rw [set_same hj]; exact SH.out⟩
  case round =>
    clear SH HU
    obtain ⟨k, Y, hk, rfl, hp, hu, ht, S⟩ := hrel
    have HP := Lib.hid hp
    have HU := Lib.hid hu
    have HT := Lib.hid ht
    have HYL : Hid (Y.length = m) := by unfold Hid; rw [hp.length_eq]; exact HNX.out.symm
    have HB2 := Lib.hid ((List.getElem?_set_ne (l := Γ) (a := Pc.own 61 2 q m c (encE Y)) (i := j) (j := jb) (by omega)).trans hb)
    have HJ2 := Lib.hid (pc_set (q := Pc.own 61 2 q m c (encE Y)) hj)
    have b0 := (S.blk jb HB2.out).cell 0
    have ML := fun N hN => nmLess gb _ wr N hN b0
    obtain ⟨a, ha⟩ : ∃ a, 2 * k + 1 = a := ⟨_, rfl⟩
    have e1 : 2 * (k:Int) + 1 = (a:Int) := by omega
    have e2 : decide ((a:Int) < 0) = false := by simp
    clear hp hu ht
    by_cases hA : n ≤ a
    · have d1 : decide ((n:Int) ≤ a) = true := by simp; omega
      have HE := Lib.hid (dn_leaf HU.out (by omega))
      have SH := Lib.hid S; clear S
      have d1n : decide (n ≤ a) = true := by simpa using hA
      clear ha
      go_wp2
      go_ret
      exact ⟨_, rfl, Y, HP.out, HE.out, HT.out, SH.out⟩
    · have d1 : decide ((n:Int) ≤ a) = false := by simp; omega
      obtain ⟨b, hb'⟩ : ∃ b, 2 * k + 2 = b := ⟨_, rfl⟩
      have e3 : (a:Int) + 1 = (b:Int) := by omega
      by_cases hB : b < n
      · have d2 : decide ((b:Int) < n) = true := by simp; omega
        have hL1 := nHLess q m c Y b a wr (S.rd j HJ2.out (by omega)) (by omega) (by omega)
        cases hl1 : ltN (nth Y b) (nth Y a) with
        | false =>
          rw [hl1] at hL1
          have HL1 := Lib.hid hL1
          obtain ⟨d, hd⟩ : ∃ d, d = a := ⟨_, rfl⟩
          have HLC := Lib.hid (least_one stoN (n := n) (j := k) (X := Y) (by omega) (.inr (by rw [ha, hb']; exact hl1)))
          rw [ha] at HLC
          have SH := Lib.hid S; clear S
          obtain rfl := hd
          clear hl1 hL1
          cases hlt : ltN (nth Y d) (nth Y k) with
          | false =>
            have HE := Lib.hid (dn_end stoN HU.out HLC.out hlt)
            have HL2 : Hid (∀ W, Ext wr W → Calls Tryz.prog 243 #[.slice q m c, .int .i64 d, .int .i64 k] W fun e w' => e = .returned (.bool false) ∧ Ext W w') := fun W h => hlt ▸ nHLess q m c Y d k W ((SH.out.rd j HJ2.out (by omega)).ext h) (by omega) (by omega)
            clear hlt
            go_wp2_with (first | (go_at_call 243; have _t := S5; go_must (refine (HL2.out _ X5.out).mono ?_; rintro e w6 ⟨rfl, h6⟩; have S6 := Lib.hid (S5.out.call h6); have b6 := (S6.out.blk jb HB2.out).cell 0; have MS := fun N hN => nmSwap gb _ w6 N hN b6; clear h6)) | (go_at_call 243; have _t := HL1; go_must (refine HL1.out.mono ?_; rintro e w5 ⟨rfl, h5⟩; have S5 := Lib.hid (SH.out.call h5); have X5 := Lib.hid h5; have b5 := (S5.out.blk jb HB2.out).cell 0; have ML5 := fun N hN => nmLess gb _ w5 N hN b5; clear h5)))
            go_ret
            exact ⟨_, rfl, Y, HP.out, HE.out, HT.out, S6.out⟩
          | true =>
            have HE := Lib.hid (dn_step stoN (by rw [HYL.out]; exact hnm) HU.out HLC.out hlt)
            have HL2 : Hid (∀ W, Ext wr W → Calls Tryz.prog 243 #[.slice q m c, .int .i64 d, .int .i64 k] W fun e w' => e = .returned (.bool true) ∧ Ext W w') := fun W h => hlt ▸ nHLess q m c Y d k W ((SH.out.rd j HJ2.out (by omega)).ext h) (by omega) (by omega)
            have HPM := Lib.hid (swapL_perm (X := Y) (i := k) (j := d) (by rw [HYL.out]; omega) (by rw [HYL.out]; omega))
            have HT2 : Hid (∀ z, n ≤ z → z < m → nth (swapL Y k d) z = nth X z) := fun z h1 h2 => by rw [swapL_nth (by rw [HYL.out]; exact h2), if_neg (by omega), if_neg (by omega)]; exact HT.out z h1 h2
            clear hlt
            go_wp2_with (first | (go_at_call 246; go_must (refine (nHSwap q m c Y k d w6 w0 _ j S6.out HJ2.out (by omega) (by omega) (by omega)).mono ?_; rintro e w7 ⟨rfl, T⟩; rw [List.set_set] at T; have S7 := Lib.hid T; clear T)) | (go_at_call 243; have _t := S5; go_must (refine (HL2.out _ X5.out).mono ?_; rintro e w6 ⟨rfl, h6⟩; have S6 := Lib.hid (S5.out.call h6); have b6 := (S6.out.blk jb HB2.out).cell 0; have MS := fun N hN => nmSwap gb _ w6 N hN b6; clear h6)) | (go_at_call 243; have _t := HL1; go_must (refine HL1.out.mono ?_; rintro e w5 ⟨rfl, h5⟩; have S5 := Lib.hid (SH.out.call h5); have X5 := Lib.hid h5; have b5 := (S5.out.blk jb HB2.out).cell 0; have ML5 := fun N hN => nmLess gb _ w5 N hN b5; clear h5)))
            go_roundw
            case rel => exact ⟨d, swapL Y k d, by omega, rfl, HPM.out.trans HP.out, HE.out, HT2.out, S7.out⟩
            case measure => simp [intOf]; omega
        | true =>
          rw [hl1] at hL1
          have HL1 := Lib.hid hL1
          have HLC := Lib.hid (least_two stoN (n := n) (j := k) (X := Y) (by omega) (by rw [ha, hb']; exact hl1))
          rw [hb'] at HLC
          obtain ⟨d, hd⟩ : ∃ d, d = b := ⟨_, rfl⟩
          have SH := Lib.hid S; clear S
          obtain rfl := hd
          clear hl1 hL1
          cases hlt : ltN (nth Y d) (nth Y k) with
          | false =>
            have HE := Lib.hid (dn_end stoN HU.out HLC.out hlt)
            have HL2 : Hid (∀ W, Ext wr W → Calls Tryz.prog 243 #[.slice q m c, .int .i64 d, .int .i64 k] W fun e w' => e = .returned (.bool false) ∧ Ext W w') := fun W h => hlt ▸ nHLess q m c Y d k W ((SH.out.rd j HJ2.out (by omega)).ext h) (by omega) (by omega)
            clear hlt
            go_wp2_with (first | (go_at_call 243; have _t := S5; go_must (refine (HL2.out _ X5.out).mono ?_; rintro e w6 ⟨rfl, h6⟩; have S6 := Lib.hid (S5.out.call h6); have b6 := (S6.out.blk jb HB2.out).cell 0; have MS := fun N hN => nmSwap gb _ w6 N hN b6; clear h6)) | (go_at_call 243; have _t := HL1; go_must (refine HL1.out.mono ?_; rintro e w5 ⟨rfl, h5⟩; have S5 := Lib.hid (SH.out.call h5); have X5 := Lib.hid h5; have b5 := (S5.out.blk jb HB2.out).cell 0; have ML5 := fun N hN => nmLess gb _ w5 N hN b5; clear h5)))
            go_ret
            exact ⟨_, rfl, Y, HP.out, HE.out, HT.out, S6.out⟩
          | true =>
            have HE := Lib.hid (dn_step stoN (by rw [HYL.out]; exact hnm) HU.out HLC.out hlt)
            have HL2 : Hid (∀ W, Ext wr W → Calls Tryz.prog 243 #[.slice q m c, .int .i64 d, .int .i64 k] W fun e w' => e = .returned (.bool true) ∧ Ext W w') := fun W h => hlt ▸ nHLess q m c Y d k W ((SH.out.rd j HJ2.out (by omega)).ext h) (by omega) (by omega)
            have HPM := Lib.hid (swapL_perm (X := Y) (i := k) (j := d) (by rw [HYL.out]; omega) (by rw [HYL.out]; omega))
            have HT2 : Hid (∀ z, n ≤ z → z < m → nth (swapL Y k d) z = nth X z) := fun z h1 h2 => by rw [swapL_nth (by rw [HYL.out]; exact h2), if_neg (by omega), if_neg (by omega)]; exact HT.out z h1 h2
            clear hlt
            go_wp2_with (first | (go_at_call 246; go_must (refine (nHSwap q m c Y k d w6 w0 _ j S6.out HJ2.out (by omega) (by omega) (by omega)).mono ?_; rintro e w7 ⟨rfl, T⟩; rw [List.set_set] at T; have S7 := Lib.hid T; clear T)) | (go_at_call 243; have _t := S5; go_must (refine (HL2.out _ X5.out).mono ?_; rintro e w6 ⟨rfl, h6⟩; have S6 := Lib.hid (S5.out.call h6); have b6 := (S6.out.blk jb HB2.out).cell 0; have MS := fun N hN => nmSwap gb _ w6 N hN b6; clear h6)) | (go_at_call 243; have _t := HL1; go_must (refine HL1.out.mono ?_; rintro e w5 ⟨rfl, h5⟩; have S5 := Lib.hid (SH.out.call h5); have X5 := Lib.hid h5; have b5 := (S5.out.blk jb HB2.out).cell 0; have ML5 := fun N hN => nmLess gb _ w5 N hN b5; clear h5)))
            go_roundw
            case rel => exact ⟨d, swapL Y k d, by omega, rfl, HPM.out.trans HP.out, HE.out, HT2.out, S7.out⟩
            case measure => simp [intOf]; omega
      · have d2 : decide ((b:Int) < n) = false := by simp; omega
        have HLC := Lib.hid (least_one stoN (n := n) (j := k) (X := Y) (by omega) (.inl (by omega)))
        rw [ha] at HLC
        obtain ⟨d, hd⟩ : ∃ d, d = a := ⟨_, rfl⟩
        have SH := Lib.hid S; clear S
        have S5 := Lib.hid SH.out
        have X5 : Hid (Ext wr wr) := Below.refl _ _
        obtain rfl := hd
        cases hlt : ltN (nth Y d) (nth Y k) with
        | false =>
          have HE := Lib.hid (dn_end stoN HU.out HLC.out hlt)
          have HL2 : Hid (∀ W, Ext wr W → Calls Tryz.prog 243 #[.slice q m c, .int .i64 d, .int .i64 k] W fun e w' => e = .returned (.bool false) ∧ Ext W w') := fun W h => hlt ▸ nHLess q m c Y d k W ((SH.out.rd j HJ2.out (by omega)).ext h) (by omega) (by omega)
          clear hlt
          go_wp2_with (first | (go_at_call 243; have _t := S5; go_must (refine (HL2.out _ X5.out).mono ?_; rintro e w6 ⟨rfl, h6⟩; have S6 := Lib.hid (S5.out.call h6); have b6 := (S6.out.blk jb HB2.out).cell 0; have MS := fun N hN => nmSwap gb _ w6 N hN b6; clear h6)) | (go_at_call 243; have _t := HL1; go_must (refine HL1.out.mono ?_; rintro e w5 ⟨rfl, h5⟩; have S5 := Lib.hid (SH.out.call h5); have X5 := Lib.hid h5; have b5 := (S5.out.blk jb HB2.out).cell 0; have ML5 := fun N hN => nmLess gb _ w5 N hN b5; clear h5)))
          go_ret
          exact ⟨_, rfl, Y, HP.out, HE.out, HT.out, S6.out⟩
        | true =>
          have HE := Lib.hid (dn_step stoN (by rw [HYL.out]; exact hnm) HU.out HLC.out hlt)
          have HL2 : Hid (∀ W, Ext wr W → Calls Tryz.prog 243 #[.slice q m c, .int .i64 d, .int .i64 k] W fun e w' => e = .returned (.bool true) ∧ Ext W w') := fun W h => hlt ▸ nHLess q m c Y d k W ((SH.out.rd j HJ2.out (by omega)).ext h) (by omega) (by omega)
          have HPM := Lib.hid (swapL_perm (X := Y) (i := k) (j := d) (by rw [HYL.out]; omega) (by rw [HYL.out]; omega))
          have HT2 : Hid (∀ z, n ≤ z → z < m → nth (swapL Y k d) z = nth X z) := fun z h1 h2 => by rw [swapL_nth (by rw [HYL.out]; exact h2), if_neg (by omega), if_neg (by omega)]; exact HT.out z h1 h2
          clear hlt
          go_wp2_with (first | (go_at_call 246; go_must (refine (nHSwap q m c Y k d w6 w0 _ j S6.out HJ2.out (by omega) (by omega) (by omega)).mono ?_; rintro e w7 ⟨rfl, T⟩; rw [List.set_set] at T; have S7 := Lib.hid T; clear T)) | (go_at_call 243; have _t := S5; go_must (refine (HL2.out _ X5.out).mono ?_; rintro e w6 ⟨rfl, h6⟩; have S6 := Lib.hid (S5.out.call h6); have b6 := (S6.out.blk jb HB2.out).cell 0; have MS := fun N hN => nmSwap gb _ w6 N hN b6; clear h6)) | (go_at_call 243; have _t := HL1; go_must (refine HL1.out.mono ?_; rintro e w5 ⟨rfl, h5⟩; have S5 := Lib.hid (SH.out.call h5); have X5 := Lib.hid h5; have b5 := (S5.out.blk jb HB2.out).cell 0; have ML5 := fun N hN => nmLess gb _ w5 N hN b5; clear h5)))
          go_roundw
          case rel => exact ⟨d, swapL Y k d, by omega, rfl, HPM.out.trans HP.out, HE.out, HT2.out, S7.out⟩
          case measure => simp [intOf]; omega
end Go.Proofs.YtkekibnhmfmhmaaGreat
/- The heap of near.hits (written by genhp.py out of Hp6). -/
namespace Go.Proofs.YtkekibnhmfmhmaaGreat
open Go Go.RowKit
attribute [local go_sem] Oper.semAt_some
theorem nheap_snoc {n : Nat} {X : List (Int × Int)} {x : Int × Int} (hn : n = X.length) (h : HeapN ltN n X) : UpH ltN (n + 1) n (X ++ [x]) := by
  refine up_start fun i h0 h1 => ?_
  rw [nth_append_left _ _ _ (by omega), nth_append_left _ _ _ (by omega)]
  exact h i h0 h1
set_option maxRecDepth 100000 in
set_option maxHeartbeats 4000000 in
theorem nHeapPush (gb : Nat) (q : Option Addr) (n c : Nat) (X : List (Int × Int)) (x : Int × Int) (w w0 : World) (Γ : List Pc) (jb j : Nat) (S : Sep w0 w Γ) (hb : Γ[jb]? = some (.blk gb 101 #[.slice q n c])) (hj : Γ[j]? = some (.own 61 2 q n c (encE X))) (hne : jb ≠ j) (hn : n ≤ 90000) (hh : HeapN ltN n X) :
    Calls Tryz.prog 68 #[nhpV gb, nplV x] w fun e w' => e = .returned (.tuple #[]) ∧ ∃ (q' : Option Addr) (c' : Nat) (X' : List (Int × Int)), X'.Perm (X ++ [x]) ∧ HeapN ltN (n + 1) X' ∧ Sep w0 w' ((Γ.set j (.own 61 2 q' (n + 1) c' (encE X'))).set jb (.blk gb 101 #[.slice q' (n + 1) c'])) := by
  have HU := Lib.hid (nheap_snoc (x := x) (S.rd j hj (by omega)).nE hh)
  have HPU := Lib.hid (nHPush gb q n c X x w w0 Γ jb j S hb hj hne (by omega))
  have MP := fun W N hN => nmPush gb W N hN
  have HUP := Lib.hid (fun q1 c1 w1 S1 => nHUp gb q1 (n + 1) c1 n (X ++ [x]) w1 w0 ((Γ.set j (.own 61 2 q1 (n + 1) c1 (encE (X ++ [x])))).set jb (.blk gb 101 #[.slice q1 (n + 1) c1])) jb j S1 (pc_set (p := .blk gb 101 #[.slice q n c]) (by rw [List.getElem?_set_ne (fun e => hne e.symm)]; exact hb)) (by rw [List.getElem?_set_ne hne]; exact pc_set hj) hne (by omega) (by omega) HU.out)
  have HB := Lib.hid (fun q1 c1 => (pc_set (p := .blk gb 101 #[.slice q n c]) (q := .blk gb 101 #[.slice q1 (n + 1) c1]) (by rw [List.getElem?_set_ne (fun e => hne e.symm)]; exact hb) : ((Γ.set j (.own 61 2 q1 (n + 1) c1 (encE (X ++ [x])))).set jb (.blk gb 101 #[.slice q1 (n + 1) c1]))[jb]? = some _))
  clear S hb hj hh
  unfold nhpV nplV
  go_enter Tryz.func68, Tryz.ntmps68
  go_wp2_with (first
    | (go_at_call 96; go_must (refine (HUP.out q1 c1 w1 S1.out).mono ?_; rintro e w2 ⟨rfl, X', k1, k2, k3⟩; rw [set_two (fun e => hne e.symm)] at k3; have K1 := Lib.hid k1; have K2 := Lib.hid k2; have S2 := Lib.hid k3; clear k1 k2 k3))
    | (go_at_call 242; go_must (refine (nHLen _ _ _ _ (by omega)).mono ?_; rintro e wl ⟨rfl, hw⟩; have hw := hw.symm; subst hw))
    | (go_at_call 245; go_must (refine HPU.out.mono ?_; rintro e w1 ⟨rfl, q1, c1, T⟩; have b1 := (T.blk jb (HB.out q1 c1)).cell 0; have ML := fun N hN => nmLen gb _ w1 N hN b1; have S1 := Lib.hid T; clear T)))
  go_end0
  exact ⟨rfl, q1, c1, X', K1.out, K2.out, S2.out⟩
set_option maxRecDepth 100000 in
set_option maxHeartbeats 4000000 in
theorem nHeapPop (gb : Nat) (q : Option Addr) (n c : Nat) (X : List (Int × Int)) (w w0 : World) (Γ : List Pc) (jb j : Nat) (S : Sep w0 w Γ) (hb : Γ[jb]? = some (.blk gb 101 #[.slice q (n + 1) c])) (hj : Γ[j]? = some (.own 61 2 q (n + 1) c (encE X))) (hne : jb ≠ j) (hn : n ≤ 90000) (hh : HeapN ltN (n + 1) X) :
    Calls Tryz.prog 97 #[nhpV gb] w fun e w' => e = .returned (nplV (nth X 0)) ∧ ∃ X' : List (Int × Int), (nth X 0 :: X').Perm X ∧ HeapN ltN n X' ∧ Sep w0 w' ((Γ.set j (.own 61 2 q n c (encE X'))).set jb (.blk gb 101 #[.slice q n c])) := by
  have hnX := (S.rd j hj (by omega)).nE
  have HNX := Lib.hid hnX
  have b0 := (S.blk jb hb).cell 0
  have ML := fun N hN => nmLen gb _ w N hN b0
  have MS := fun N hN => nmSwap gb _ w N hN b0
  have MP := fun W N hN => nmPop gb W N hN
  have HSW := Lib.hid (nHSwap q (n + 1) c X 0 n w w0 Γ j S hj (by omega) (by omega) (by omega))
  have HDN := Lib.hid (fun w1 S1 => nHDown gb q n (n + 1) c (swapL X 0 n) w1 w0 (Γ.set j (.own 61 2 q (n + 1) c (encE (swapL X 0 n)))) jb j S1 (by rw [List.getElem?_set_ne (fun e => hne e.symm)]; exact hb) (pc_set hj) hne (by omega) (by omega) (dn_start hnX.symm hh))
  have HPO := Lib.hid (fun w2 Y S2 => nHPop gb q n c Y w2 w0 (Γ.set j (.own 61 2 q (n + 1) c (encE Y))) jb j S2 (by rw [List.getElem?_set_ne (fun e => hne e.symm)]; exact hb) (pc_set hj) hne (by omega))
  have HN0 : Hid (nth (swapL X 0 n) n = nth X 0) := by unfold Hid; rw [swapL_nth (by omega), if_pos rfl]
  have HPM := Lib.hid (swapL_perm (X := X) (i := 0) (j := n) (by omega) (by omega))
  clear S hb hj hh hnX
  unfold nhpV
  go_enter Tryz.func97, Tryz.ntmps97
  go_wp2_with (first
    | (go_at_call 244; go_must (refine (HPO.out w2 X' S2.out).mono ?_; rintro e w3 ⟨rfl, T⟩; rw [List.set_set] at T; have S3 := Lib.hid T; clear T))
    | (go_at_call 129; go_must (refine (HDN.out w1 S1.out).mono ?_; rintro e w2 ⟨bb, rfl, X', k1, k2, k3, k4⟩; rw [List.set_set] at k4; have K1 := Lib.hid k1; have K2 := Lib.hid k2; have K3 := Lib.hid (k3 n (Nat.le_refl _) (by omega)); have S2 := Lib.hid k4; clear k1 k2 k3 k4))
    | (go_at_call 246; go_must (refine HSW.out.mono ?_; rintro e w1 ⟨rfl, T⟩; have S1 := Lib.hid T; clear T))
    | (go_at_call 242; go_must (refine (nHLen _ _ _ _ (by omega)).mono ?_; rintro e wl ⟨rfl, hw⟩; have hw := hw.symm; subst hw)))
  go_ret
  have e0 : nth X' n = nth X 0 := K3.out.trans HN0.out
  refine ⟨by rw [e0]; rfl, X'.take n, ?_, heap_take K2.out ?_, S3.out⟩
  · exact pop_perm HNX.out.symm (K1.out.trans HPM.out) e0
  · rw [K1.out.length_eq, HPM.out.length_eq, ← HNX.out]; omega
end Go.Proofs.YtkekibnhmfmhmaaGreat
/- A new row, where it lies. -/
namespace Go.Proofs.YtkekibnhmfmhmaaGreat
open Go Go.RowKit
theorem Rd.newAt (w : World) (t : TypeId) (cs : List Value) (n size g : Nat) (hg : w.heap.size = g) (h : cs.length = n * size) (hn : n ≤ 9223372036854775807) : Rd (w.alloc (.cells cs.toArray t)) size (some ⟨g, 0, none⟩) n cs := by
  subst hg; exact Rd.new w t cs n size h hn
end Go.Proofs.YtkekibnhmfmhmaaGreat
/- The program's hits (chapter 9): gathered. -/
namespace Go.Proofs.YtkekibnhmfmhmaaGreat
open Go Go.RowKit
attribute [local go_sem] Oper.semAt_some
def lenN : Value → Nat
  | .slice _ n _ => n
  | _ => 0
theorem infNr : ((Tryz.prog).info? 61).map (fun i => (i.zero, i.size, i.bytes)) = some (some (.agg #[.int .i64 0, .int .i64 0]), 2, 16) := by kernel_rfl
set_option maxRecDepth 100000 in
set_option maxHeartbeats 8000000 in
theorem NGath (gb : Nat) (q : Option Addr) (m c : Nat) (X : List (Int × Int)) (w w0 : World) (S : Sep w0 w [.own 61 2 q m c (encE X), .blk gb 101 #[.slice q m c]]) (hm : m ≤ 10000) (hh : HeapN ltN m X) (hnd : X.Nodup) :
    Calls Tryz.prog 69 #[nhpV gb] w fun e w' => ∃ ql cl, e = .returned (.slice ql (sortN X).length cl) ∧ Sep w0 w' [.own 61 2 ql (sortN X).length cl (encE (sortN X))] := by
  obtain ⟨i0, hi0, hz0, hz1, hz2⟩ := info_parts infNr
  have hmX : m = X.length := (S.rdx 0 rfl).nE
  have HND := Lib.hid hnd
  have HMX := Lib.hid hmX
  have TA := fun (x : Int × Int) W => ntaPlace x.1 x.2 W
  unfold nhpV
  have SH := Lib.hid S; clear S
  clear hmX hnd
  go_enter Tryz.func69, Tryz.ntmps69
  go_wp2
  go_loopw [3, 4, 5] (fun v3 _ _ wr => ∃ (out : List (Int × Int)) (ql : Option Addr) (cl m2 : Nat) (q2 : Option Addr) (c2 : Nat) (Y : List (Int × Int)), v3 = .slice ql out.length cl ∧ (out ++ Y).Perm X ∧ Rises ltN out ∧ (∀ a ∈ out, ∀ b ∈ Y, ltN b a = false) ∧ HeapN ltN m2 Y ∧ Sep w0 wr [.own 61 2 ql out.length cl (encE out), .own 61 2 q2 m2 c2 (encE Y), .blk gb 101 #[.slice q2 m2 c2]]) (fun v3 _ _ _ => m - lenN v3)
  case atStart => exact ⟨[], none, 0, m, q, c, X, rfl, List.Perm.refl _, List.Pairwise.nil, fun _ h => (nomatch h), hh, (SH.out.nilrow 61 2).pick [0, 1, 2] (by decide) rfl⟩
  case round =>
    clear SH hh
    obtain ⟨out, ql, cl, m2, q2, c2, Y, rfl, hp, hr, hle, hh, S⟩ := hrel
    have hmY := (S.rdx 1 rfl).nE
    have hlen : out.length + m2 = m := by have := hp.length_eq; rw [List.length_append] at this; have := HMX.out; omega
    have b0 := (S.blk 2 rfl).cell 0
    have ML := fun N hN => nmLen gb _ wr N hN b0
    by_cases hm0 : m2 = 0
    · subst hm0
      have hY : Y = [] := List.eq_nil_of_length_eq_zero hmY.symm
      subst hY
      rw [List.append_nil] at hp
      have HB := Lib.hid (sortN_uniq HND.out hr hp)
      rw [HB.out] at S
      clear hp hr hle hh hlen hmY
      rw [HB.out]
      have SJ := Lib.hid S; clear S
      go_wp2_with (go_at_call 242; go_must (refine (nHLen _ _ _ _ (by omega)).mono ?_; rintro e wl ⟨rfl, hw⟩; have hw := hw.symm; subst hw))
      go_ret
      exact ⟨ql, cl, rfl, SJ.out.pick [0] (by decide) rfl⟩
    · obtain ⟨m', rfl⟩ : ∃ m', m2 = m' + 1 := ⟨m2 - 1, by omega⟩
      have d2 : decide ((0:Int) < (m':Int) + 1) = true := by simp; try omega
      have hmin := heap_min stoN hh
      have HPO := Lib.hid (fun W (T : Sep w0 W [.own 61 2 ql out.length cl (encE out), .own 61 2 q2 (m' + 1) c2 (encE Y), .blk gb 101 #[.slice q2 (m' + 1) c2]]) => nHeapPop gb q2 m' c2 Y W w0 _ 2 1 T rfl rfl (by decide) (by omega) hh)
      unfold nhpV nplV at HPO
      have HRS : Hid (∀ Y', (nth Y 0 :: Y').Perm Y → ((out ++ [nth Y 0]) ++ Y').Perm X ∧ Rises ltN (out ++ [nth Y 0]) ∧ ∀ a ∈ out ++ [nth Y 0], ∀ b ∈ Y', ltN b a = false) := fun Y' h => pops_rise stoN hp HND.out hr hle h fun b hb => by
        obtain ⟨i, hi, e⟩ := List.getElem_of_mem hb
        rw [← e, ← nth_eq hi]; exact hmin i (by omega)
      generalize nth Y 0 = y at *
      clear hp hr hle hh hmin hmY hm0
      have SJ := Lib.hid S; clear S
      go_wp2_with (first
        | (at_builtin; go_must (refine wpList_append_sep rfl _ _ _ rfl 61 i0 _ 2 16 Tryz.underlying31 hi0 hz0 hz1 hz2 rfl (by omega) ((S5.out.junk _).junk _) 0 ql out.length cl _ rfl rfl _ 1 1 _ rfl (Rd.newAt _ _ _ 1 2 _ (by simp) rfl (by omega)) (one_encE [y]) (by omega) (by omega) ?_; intro q6 c6 w6 S' hsz; have S6 := Lib.hid S'; clear S' hsz))
        | (go_at_call 97; go_must (refine (HPO.out _ SJ.out).mono ?_; rintro e w5 ⟨rfl, Y', k1, k2, T⟩; have K1 := Lib.hid k1; have K2 := Lib.hid k2; have S5 := Lib.hid T; clear k1 k2 T))
        | (go_at_call 242; go_must (refine (nHLen _ _ _ _ (by omega)).mono ?_; rintro e wl ⟨rfl, hw⟩; have hw := hw.symm; subst hw)))
      go_roundw
      case rel =>
        obtain ⟨r1, r2, r3⟩ := HRS.out Y' K1.out
        exact ⟨out ++ [y], q6, c6, m', q2, c2, Y', by rw [List.length_append]; rfl, r1, r2, r3, K2.out, by rw [List.length_append, encE_append]; exact S6.out⟩
      case measure => simp [lenN]; omega
end Go.Proofs.YtkekibnhmfmhmaaGreat
/- The program's searches (chapter 8): a place's next ones; a side that begins. -/
namespace Go.Proofs.YtkekibnhmfmhmaaGreat
open Go Go.RowKit
set_option maxRecDepth 100000 in
set_option maxHeartbeats 2000000 in
theorem open1G (po : Option Addr) (no co : Nat) (O : List Int) (pt : Option Addr) (nt ct : Nat) (T : List Int) (pr : Option Addr) (nr cr : Nat) (R : List Int) (pv : Option Addr) (nv cv : Nat) (V : List Int) (gr k : Nat) (w : World) (hO : Rd w 1 po no (encI O)) (hT : Rd w 1 pt nt (encI T)) (hok : OffOk O T) (hct : nt ≤ ct) (hk1 : k + 1 < O.length) (hB : Blk w gr 41 #[.slice po no co, .slice pt nt ct, .slice pr nr cr, .slice pv nv cv]) :
    Calls Tryz.prog 110 #[.int .i64 k, .pointer (some ⟨gr, 0, none⟩)] w fun e w' => e = .returned (.slice (cutp pt ct (nth O k).toNat 1) (rowL O T k).length (ct - (nth O k).toNat)) ∧ Ext w w' := by
  have _u := (O, T, R, V)
  clear _u
  have na1 := hO.small
  have l1 := hO.nI
  have l2 := hT.nI
  have pA := hO.ptr
  have q1 := hok.lo k (by omega)
  have q2 := hok.le k hk1
  have q3 := hok.hi (k + 1) hk1
  have hrl := rowL_len hok hk1
  have RL0 := hT.rowOf hok hct hk1
  have g1 := hO.cI (k := k) (by omega)
  have g2 := hO.cI (k := k + 1) (by omega)
  have b0 := hB.cell 0
  have b1 := hB.cell 1
  have b2 := hB.cell 2
  have b3 := hB.cell 3
  have bz := hB.lt
  obtain ⟨a, ha⟩ : ∃ a : Nat, nth O k = (a : Int) := ⟨(nth O k).toNat, by omega⟩
  obtain ⟨c, hc⟩ : ∃ c : Nat, nth O (k + 1) = (c : Int) := ⟨(nth O (k + 1)).toNat, by omega⟩
  rw [ha] at q1 q2 hrl RL0 g1
  rw [hc] at q2 q3 hrl RL0 g2
  simp only [Int.toNat_natCast] at hrl RL0
  have hq3 : (c:Int) ≤ ct := by omega
  have d1 : (0:Int) ≤ k := by omega
  have d2 : (k:Int) < no := by omega
  have d3 : (0:Int) ≤ (k:Int) + 1 := by omega
  have d4 : (k:Int) + 1 < no := by omega
  have RL := Lib.hid RL0
  rw [hrl, ha, Int.toNat_natCast]
  clear hO hT hok ha hc hrl RL0 l1 l2 q3 hk1 hB
  go_enter Tryz.func110, Tryz.ntmps110
  go_wp2
  have y0 := fun x : ExtOf w => x.ext.cell b0
  have y1 := fun x : ExtOf w => x.ext.cell b1
  have y2 := fun x : ExtOf w => x.ext.cell b2
  have y3 := fun x : ExtOf w => x.ext.cell b3
  have x1 := fun x : ExtOf w => x.ext.cell g1
  have x2 := fun x : ExtOf w => x.ext.cell g2
  refine wp_region_ext (by kernel_rfl) (by kernel_rfl) ?_
  repeat (go_big_quiet_step ((fail)))
  refine wpQuiet_nil ?_
  rintro w1 ⟨⟨_, hb1⟩, rfl⟩
  go_wp2
  go_ret
  exact ⟨rfl, hb1⟩
set_option maxRecDepth 100000 in
set_option maxHeartbeats 2000000 in
theorem open2G (po : Option Addr) (no co : Nat) (O : List Int) (pt : Option Addr) (nt ct : Nat) (T : List Int) (pr : Option Addr) (nr cr : Nat) (R : List Int) (pv : Option Addr) (nv cv : Nat) (V : List Int) (gr k : Nat) (w : World) (hO : Rd w 1 pr nr (encI R)) (hT : Rd w 1 pv nv (encI V)) (hok : OffOk R V) (hct : nv ≤ cv) (hk1 : k + 1 < R.length) (hB : Blk w gr 41 #[.slice po no co, .slice pt nt ct, .slice pr nr cr, .slice pv nv cv]) :
    Calls Tryz.prog 111 #[.int .i64 k, .pointer (some ⟨gr, 0, none⟩)] w fun e w' => e = .returned (.slice (cutp pv cv (nth R k).toNat 1) (rowL R V k).length (cv - (nth R k).toNat)) ∧ Ext w w' := by
  have _u := (O, T, R, V)
  clear _u
  have na1 := hO.small
  have l1 := hO.nI
  have l2 := hT.nI
  have pA := hO.ptr
  have q1 := hok.lo k (by omega)
  have q2 := hok.le k hk1
  have q3 := hok.hi (k + 1) hk1
  have hrl := rowL_len hok hk1
  have RL0 := hT.rowOf hok hct hk1
  have g1 := hO.cI (k := k) (by omega)
  have g2 := hO.cI (k := k + 1) (by omega)
  have b0 := hB.cell 0
  have b1 := hB.cell 1
  have b2 := hB.cell 2
  have b3 := hB.cell 3
  have bz := hB.lt
  obtain ⟨a, ha⟩ : ∃ a : Nat, nth R k = (a : Int) := ⟨(nth R k).toNat, by omega⟩
  obtain ⟨c, hc⟩ : ∃ c : Nat, nth R (k + 1) = (c : Int) := ⟨(nth R (k + 1)).toNat, by omega⟩
  rw [ha] at q1 q2 hrl RL0 g1
  rw [hc] at q2 q3 hrl RL0 g2
  simp only [Int.toNat_natCast] at hrl RL0
  have hq3 : (c:Int) ≤ cv := by omega
  have d1 : (0:Int) ≤ k := by omega
  have d2 : (k:Int) < nr := by omega
  have d3 : (0:Int) ≤ (k:Int) + 1 := by omega
  have d4 : (k:Int) + 1 < nr := by omega
  have RL := Lib.hid RL0
  rw [hrl, ha, Int.toNat_natCast]
  clear hO hT hok ha hc hrl RL0 l1 l2 q3 hk1 hB
  go_enter Tryz.func111, Tryz.ntmps111
  go_wp2
  have y0 := fun x : ExtOf w => x.ext.cell b0
  have y1 := fun x : ExtOf w => x.ext.cell b1
  have y2 := fun x : ExtOf w => x.ext.cell b2
  have y3 := fun x : ExtOf w => x.ext.cell b3
  have x1 := fun x : ExtOf w => x.ext.cell g1
  have x2 := fun x : ExtOf w => x.ext.cell g2
  refine wp_region_ext (by kernel_rfl) (by kernel_rfl) ?_
  repeat (go_big_quiet_step ((fail)))
  refine wpQuiet_nil ?_
  rintro w1 ⟨⟨_, hb1⟩, rfl⟩
  go_wp2
  go_ret
  exact ⟨rfl, hb1⟩
theorem open1Gr (po : Option Addr) (no co : Nat) (O : List Int) (pt : Option Addr) (nt ct : Nat) (T : List Int) (pr : Option Addr) (nr cr : Nat) (R : List Int) (pv : Option Addr) (nv cv : Nat) (V : List Int) (gr k : Nat) (w : World) (hO : Rd w 1 po no (encI O)) (hT : Rd w 1 pt nt (encI T)) (hok : OffOk O T) (hct : nt ≤ ct) (hk1 : k + 1 < O.length) (hB : Blk w gr 41 #[.slice po no co, .slice pt nt ct, .slice pr nr cr, .slice pv nv cv]) :
    ∃ q c, Rd w 1 q (rowL O T k).length (encI (rowL O T k)) ∧ ∀ W, Ext w W → Calls Tryz.prog 110 #[.int .i64 k, .pointer (some ⟨gr, 0, none⟩)] W fun e w' => e = .returned (.slice q (rowL O T k).length c) ∧ Ext W w' := by
  refine ⟨_, _, ?_, fun W h => open1G po no co O pt nt ct T pr nr cr R pv nv cv V gr k W (hO.ext h) (hT.ext h) hok hct hk1 (hB.ext h)⟩
  have := hT.rowOf hok hct hk1
  rw [← rowL_len hok hk1] at this
  exact this
theorem open2Gr (po : Option Addr) (no co : Nat) (O : List Int) (pt : Option Addr) (nt ct : Nat) (T : List Int) (pr : Option Addr) (nr cr : Nat) (R : List Int) (pv : Option Addr) (nv cv : Nat) (V : List Int) (gr k : Nat) (w : World) (hO : Rd w 1 pr nr (encI R)) (hT : Rd w 1 pv nv (encI V)) (hok : OffOk R V) (hct : nv ≤ cv) (hk1 : k + 1 < R.length) (hB : Blk w gr 41 #[.slice po no co, .slice pt nt ct, .slice pr nr cr, .slice pv nv cv]) :
    ∃ q c, Rd w 1 q (rowL R V k).length (encI (rowL R V k)) ∧ ∀ W, Ext w W → Calls Tryz.prog 111 #[.int .i64 k, .pointer (some ⟨gr, 0, none⟩)] W fun e w' => e = .returned (.slice q (rowL R V k).length c) ∧ Ext W w' := by
  refine ⟨_, _, ?_, fun W h => open2G po no co O pt nt ct T pr nr cr R pv nv cv V gr k W (hO.ext h) (hT.ext h) hok hct hk1 (hB.ext h)⟩
  have := hT.rowOf hok hct hk1
  rw [← rowL_len hok hk1] at this
  exact this
end Go.Proofs.YtkekibnhmfmhmaaGreat
/- The program's levels (chapter 7): ways, in a direction; open. -/
namespace Go.Proofs.YtkekibnhmfmhmaaGreat
open Go Go.RowKit
set_option maxRecDepth 100000 in
set_option maxHeartbeats 2000000 in
theorem waysOut (po : Option Addr) (no co : Nat) (O : List Int) (pt : Option Addr) (nt ct : Nat) (T : List Int) (pr : Option Addr) (nr cr : Nat) (R : List Int) (pv : Option Addr) (nv cv : Nat) (V : List Int) (k : Nat) (w : World) (hO : Rd w 1 po no (encI O)) (hT : Rd w 1 pt nt (encI T)) (hok : OffOk O T) (hct : nt ≤ ct) (hk1 : k + 1 < O.length) :
    Calls Tryz.prog 150 #[.agg #[.slice po no co, .slice pt nt ct, .slice pr nr cr, .slice pv nv cv], .int .i64 k] w fun e w' => e = .returned (.slice (cutp pt ct (nth O k).toNat 1) (rowL O T k).length (ct - (nth O k).toNat)) ∧ Ext w w' := by
  have _u := (R, V)
  have S0 := Lib.hid ((Sep.start w).al #[.slice po no co, .slice pt nt ct, .slice pr nr cr, .slice pv nv cv] 136 w.heap.size rfl)
  have na1 := hO.small
  have l1 := hO.nI
  have l2 := hT.nI
  have pA := hO.ptr
  have q1 := hok.lo k (by omega)
  have q2 := hok.le k hk1
  have q3 := hok.hi (k + 1) hk1
  have hrl := rowL_len hok hk1
  have RL0 := hT.rowOf hok hct hk1
  have g1 := hO.cI (k := k) (by omega)
  have g2 := hO.cI (k := k + 1) (by omega)
  obtain ⟨a, ha⟩ : ∃ a : Nat, nth O k = (a : Int) := ⟨(nth O k).toNat, by omega⟩
  obtain ⟨c, hc⟩ : ∃ c : Nat, nth O (k + 1) = (c : Int) := ⟨(nth O (k + 1)).toNat, by omega⟩
  rw [ha] at q1 q2 hrl RL0 g1
  rw [hc] at q2 q3 hrl RL0 g2
  simp only [Int.toNat_natCast] at hrl RL0
  have hq3 : (c:Int) ≤ ct := by omega
  have d1 : (0:Int) ≤ k := by omega
  have d2 : (k:Int) < no := by omega
  have d3 : (0:Int) ≤ (k:Int) + 1 := by omega
  have d4 : (k:Int) + 1 < no := by omega
  have RL := Lib.hid RL0
  rw [hrl, ha, Int.toNat_natCast]
  clear hO hT hok ha hc hrl RL0 l1 l2 q3 hk1
  go_enter Tryz.func150, Tryz.ntmps150
  go_wp2
  obtain ⟨X, hX⟩ : ∃ X, X = w.alloc (.cells #[.slice po no co, .slice pt nt ct, .slice pr nr cr, .slice pv nv cv] 136) := ⟨_, rfl⟩
  have SX := Lib.hid (hX ▸ S0.out : Sep w X [.blk w.heap.size 136 #[.slice po no co, .slice pt nt ct, .slice pr nr cr, .slice pv nv cv]])
  rw [← hX]
  clear hX S0
  have bz := (SX.out.blk 0 rfl).lt; have b0 := (SX.out.blk 0 rfl).cell 0; have b1 := (SX.out.blk 0 rfl).cell 1; have b2 := (SX.out.blk 0 rfl).cell 2; have b3 := (SX.out.blk 0 rfl).cell 3
  replace g1 := SX.out.ext.cell g1
  replace g2 := SX.out.ext.cell g2
  have y0 := fun x : ExtOf X => x.ext.cell b0
  have y1 := fun x : ExtOf X => x.ext.cell b1
  have y2 := fun x : ExtOf X => x.ext.cell b2
  have y3 := fun x : ExtOf X => x.ext.cell b3
  have x1 := fun x : ExtOf X => x.ext.cell g1
  have x2 := fun x : ExtOf X => x.ext.cell g2
  refine wp_region_ext (by kernel_rfl) (by kernel_rfl) ?_
  repeat (go_big_quiet_step ((fail)))
  refine wpQuiet_nil ?_
  rintro w1 ⟨⟨_, hb1⟩, rfl⟩
  go_wp2
  go_ret
  exact ⟨rfl, Ext.trans SX.out.ext hb1⟩
theorem waysOutR (po : Option Addr) (no co : Nat) (O : List Int) (pt : Option Addr) (nt ct : Nat) (T : List Int) (pr : Option Addr) (nr cr : Nat) (R : List Int) (pv : Option Addr) (nv cv : Nat) (V : List Int) (k : Nat) (w : World) (hO : Rd w 1 po no (encI O)) (hT : Rd w 1 pt nt (encI T)) (hok : OffOk O T) (hct : nt ≤ ct) (hk1 : k + 1 < O.length) :
    ∃ q c, Rd w 1 q (rowL O T k).length (encI (rowL O T k)) ∧ ∀ W, Ext w W → Calls Tryz.prog 150 #[.agg #[.slice po no co, .slice pt nt ct, .slice pr nr cr, .slice pv nv cv], .int .i64 k] W fun e w' => e = .returned (.slice q (rowL O T k).length c) ∧ Ext W w' := by
  refine ⟨_, _, ?_, fun W h => waysOut po no co O pt nt ct T pr nr cr R pv nv cv V k W (hO.ext h) (hT.ext h) hok hct hk1⟩
  have := hT.rowOf hok hct hk1
  rw [← rowL_len hok hk1] at this
  exact this
set_option maxRecDepth 100000 in
set_option maxHeartbeats 2000000 in
theorem waysIn (po : Option Addr) (no co : Nat) (O : List Int) (pt : Option Addr) (nt ct : Nat) (T : List Int) (pr : Option Addr) (nr cr : Nat) (R : List Int) (pv : Option Addr) (nv cv : Nat) (V : List Int) (k : Nat) (w : World) (hO : Rd w 1 pr nr (encI R)) (hT : Rd w 1 pv nv (encI V)) (hok : OffOk R V) (hct : nv ≤ cv) (hk1 : k + 1 < R.length) :
    Calls Tryz.prog 149 #[.agg #[.slice po no co, .slice pt nt ct, .slice pr nr cr, .slice pv nv cv], .int .i64 k] w fun e w' => e = .returned (.slice (cutp pv cv (nth R k).toNat 1) (rowL R V k).length (cv - (nth R k).toNat)) ∧ Ext w w' := by
  have _u := (O, T)
  have S0 := Lib.hid ((Sep.start w).al #[.slice po no co, .slice pt nt ct, .slice pr nr cr, .slice pv nv cv] 136 w.heap.size rfl)
  have na1 := hO.small
  have l1 := hO.nI
  have l2 := hT.nI
  have pA := hO.ptr
  have q1 := hok.lo k (by omega)
  have q2 := hok.le k hk1
  have q3 := hok.hi (k + 1) hk1
  have hrl := rowL_len hok hk1
  have RL0 := hT.rowOf hok hct hk1
  have g1 := hO.cI (k := k) (by omega)
  have g2 := hO.cI (k := k + 1) (by omega)
  obtain ⟨a, ha⟩ : ∃ a : Nat, nth R k = (a : Int) := ⟨(nth R k).toNat, by omega⟩
  obtain ⟨c, hc⟩ : ∃ c : Nat, nth R (k + 1) = (c : Int) := ⟨(nth R (k + 1)).toNat, by omega⟩
  rw [ha] at q1 q2 hrl RL0 g1
  rw [hc] at q2 q3 hrl RL0 g2
  simp only [Int.toNat_natCast] at hrl RL0
  have hq3 : (c:Int) ≤ cv := by omega
  have d1 : (0:Int) ≤ k := by omega
  have d2 : (k:Int) < nr := by omega
  have d3 : (0:Int) ≤ (k:Int) + 1 := by omega
  have d4 : (k:Int) + 1 < nr := by omega
  have RL := Lib.hid RL0
  rw [hrl, ha, Int.toNat_natCast]
  clear hO hT hok ha hc hrl RL0 l1 l2 q3 hk1
  go_enter Tryz.func149, Tryz.ntmps149
  go_wp2
  obtain ⟨X, hX⟩ : ∃ X, X = w.alloc (.cells #[.slice po no co, .slice pt nt ct, .slice pr nr cr, .slice pv nv cv] 136) := ⟨_, rfl⟩
  have SX := Lib.hid (hX ▸ S0.out : Sep w X [.blk w.heap.size 136 #[.slice po no co, .slice pt nt ct, .slice pr nr cr, .slice pv nv cv]])
  rw [← hX]
  clear hX S0
  have bz := (SX.out.blk 0 rfl).lt; have b0 := (SX.out.blk 0 rfl).cell 0; have b1 := (SX.out.blk 0 rfl).cell 1; have b2 := (SX.out.blk 0 rfl).cell 2; have b3 := (SX.out.blk 0 rfl).cell 3
  replace g1 := SX.out.ext.cell g1
  replace g2 := SX.out.ext.cell g2
  have y0 := fun x : ExtOf X => x.ext.cell b0
  have y1 := fun x : ExtOf X => x.ext.cell b1
  have y2 := fun x : ExtOf X => x.ext.cell b2
  have y3 := fun x : ExtOf X => x.ext.cell b3
  have x1 := fun x : ExtOf X => x.ext.cell g1
  have x2 := fun x : ExtOf X => x.ext.cell g2
  refine wp_region_ext (by kernel_rfl) (by kernel_rfl) ?_
  repeat (go_big_quiet_step ((fail)))
  refine wpQuiet_nil ?_
  rintro w1 ⟨⟨_, hb1⟩, rfl⟩
  go_wp2
  go_ret
  exact ⟨rfl, Ext.trans SX.out.ext hb1⟩
theorem waysInR (po : Option Addr) (no co : Nat) (O : List Int) (pt : Option Addr) (nt ct : Nat) (T : List Int) (pr : Option Addr) (nr cr : Nat) (R : List Int) (pv : Option Addr) (nv cv : Nat) (V : List Int) (k : Nat) (w : World) (hO : Rd w 1 pr nr (encI R)) (hT : Rd w 1 pv nv (encI V)) (hok : OffOk R V) (hct : nv ≤ cv) (hk1 : k + 1 < R.length) :
    ∃ q c, Rd w 1 q (rowL R V k).length (encI (rowL R V k)) ∧ ∀ W, Ext w W → Calls Tryz.prog 149 #[.agg #[.slice po no co, .slice pt nt ct, .slice pr nr cr, .slice pv nv cv], .int .i64 k] W fun e w' => e = .returned (.slice q (rowL R V k).length c) ∧ Ext W w' := by
  refine ⟨_, _, ?_, fun W h => waysIn po no co O pt nt ct T pr nr cr R pv nv cv V k W (hO.ext h) (hT.ext h) hok hct hk1⟩
  have := hT.rowOf hok hct hk1
  rw [← rowL_len hok hk1] at this
  exact this
theorem waysSize (po : Option Addr) (no co : Nat) (pt : Option Addr) (nt ct : Nat) (pr : Option Addr) (nr cr : Nat) (pv : Option Addr) (nv cv : Nat) (w : World) (h : 1 ≤ no) (hn : no ≤ 9223372036854775807) :
    Calls Tryz.prog 94 #[.agg #[.slice po no co, .slice pt nt ct, .slice pr nr cr, .slice pv nv cv]] w fun e w' => e = .returned (.int .i64 ((no:Int) - 1)) ∧ Ext w w' := by
  have S0 := Lib.hid ((Sep.start w).al #[.slice po no co, .slice pt nt ct, .slice pr nr cr, .slice pv nv cv] 136 w.heap.size rfl)
  go_enter Tryz.func94, Tryz.ntmps94
  go_wp2
  go_ret
  exact ⟨rfl, S0.out.ext⟩
/-- where a direction leads -/
def nextV (back : Bool) (rv : Value) : Value := if back = true then .func (.func 149) #[rv] #[] else .func (.func 150) #[rv] #[]
theorem waysNext (po : Option Addr) (no co : Nat) (pt : Option Addr) (nt ct : Nat) (pr : Option Addr) (nr cr : Nat) (pv : Option Addr) (nv cv : Nat) (back : Bool) (w : World) :
    Calls Tryz.prog 127 #[.agg #[.slice po no co, .slice pt nt ct, .slice pr nr cr, .slice pv nv cv], .bool back] w fun e w' => e = .returned (nextV back (.agg #[.slice po no co, .slice pt nt ct, .slice pr nr cr, .slice pv nv cv])) ∧ Ext w w' := by
  have S0 := Lib.hid ((Sep.start w).al #[.slice po no co, .slice pt nt ct, .slice pr nr cr, .slice pv nv cv] 136 w.heap.size rfl)
  cases back <;>
  (go_enter Tryz.func127, Tryz.ntmps127
   go_wp2
   go_ret
   exact ⟨rfl, S0.out.ext⟩)
/-- the error of rows and of places -/
def openC (ck : Bool) (O : List Int) (l : List Int) : Int := if ck = true then (if l.all (fun x => decide (0 ≤ x) && decide (x < (O.length : Int) - 1)) = true then 0 else 1) else 40
set_option maxRecDepth 100000 in
set_option maxHeartbeats 4000000 in
theorem openL (po : Option Addr) (no co : Nat) (O : List Int) (pt : Option Addr) (nt ct : Nat) (T : List Int) (pr : Option Addr) (nr cr : Nat) (R : List Int) (pv : Option Addr) (nv cv : Nat) (V : List Int) (p : Option Addr) (m c : Nat) (l : List Int) (w : World) (hO : Rd w 1 po no (encI O)) (hT : Rd w 1 pt nt (encI T)) (hR : Rd w 1 pr nr (encI R)) (hV : Rd w 1 pv nv (encI V)) (hct : nt ≤ ct) (hcv : nv ≤ cv) (hl : Rd w 1 p m (encI l)) :
    Calls Tryz.prog 92 #[.agg #[.slice po no co, .slice pt nt ct, .slice pr nr cr, .slice pv nv cv], .slice p m c] w fun e w' => e = .returned (.tuple #[.agg #[.slice po no co, .slice pt nt ct, .slice pr nr cr, .slice pv nv cv], .int .i64 (openC (checkR O T R V) O l)]) ∧ Ext w w' := by
  have S0 := Lib.hid ((((Sep.start w).al #[.slice po no co, .slice pt nt ct, .slice pr nr cr, .slice pv nv cv] 41 w.heap.size rfl).al #[.slice none 0 0, .slice none 0 0, .slice none 0 0, .slice none 0 0] 136 (w.heap.size + 1) (by simp)).al #[.slice po no co, .slice pt nt ct, .slice pr nr cr, .slice pv nv cv] 136 (w.heap.size + 1 + 1) (by simp))
  have HC := Lib.hid (fun W1 (h : Ext w W1) => CheckR po no co O pt nt ct T pr nr cr R pv nv cv V W1 (hO.ext h) (hT.ext h) (hR.ext h) (hV.ext h) hct hcv)
  have l1 := hO.nI
  have n1 := hO.small
  have p1 := hl.ptr
  have n2 := hl.small
  have L1 := Lib.hid hl.nI
  have HL := Lib.hid hl; clear hl
  cases hck : checkR O T R V with
  | false =>
    rw [hck] at HC
    have HF : Hid (openC false O l = 40) := rfl
    clear hO hT hR hV hck l1
    go_enter Tryz.func92, Tryz.ntmps92
    go_wp2_with (go_at_call 56; go_must (refine (HC.out _ S0.out.ext).mono ?_; rintro e w1 ⟨rfl, hb⟩; have S1 := Lib.hid (S0.out.call hb); have vz := (S1.out.blk 0 rfl).lt; have v0 := (S1.out.blk 0 rfl).cell 0; have v1 := (S1.out.blk 0 rfl).cell 1; have v2 := (S1.out.blk 0 rfl).cell 2; have v3 := (S1.out.blk 0 rfl).cell 3; have zz := (S1.out.blk 1 rfl).lt; have z0 := (S1.out.blk 1 rfl).cell 0; have z1 := (S1.out.blk 1 rfl).cell 1; have z2 := (S1.out.blk 1 rfl).cell 2; have z3 := (S1.out.blk 1 rfl).cell 3; have zf0 := (S1.out.blk 1 rfl).frozen 0; have zf1 := (S1.out.blk 1 rfl).frozen 1; have zf2 := (S1.out.blk 1 rfl).frozen 2; have zf3 := (S1.out.blk 1 rfl).frozen 3; clear hb))
    have S7 := (((S1.out.set 1 rfl 0 (.slice po no co)).set 1 rfl 1 (.slice pt nt ct)).set 1 rfl 2 (.slice pr nr cr)).set 1 rfl 3 (.slice pv nv cv)
    have b0 := (S7.blk 1 rfl).cell 0
    have b1 := (S7.blk 1 rfl).cell 1
    have b2 := (S7.blk 1 rfl).cell 2
    have b3 := (S7.blk 1 rfl).cell 3
    refine bodyPost_ret (v := .tuple #[.agg #[.slice po no co, .slice pt nt ct, .slice pr nr cr, .slice pv nv cv], .int .i64 40]) (by simp [results, Tryz.results92, go_sem, b0, b1, b2, b3, Tryz.sizeOf136, Tryz.isAgg136]) rfl ⟨(by rw [HF.out]), S7.ext⟩
  | true =>
    rw [hck] at HC
    have r := offB_parts (halfB_off (checkR_half hck).2.2.1)
    have hno1 : 1 ≤ no := by omega
    have LO := Lib.hid l1
    have HSZ := Lib.hid (fun W => waysSize po no co pt nt ct pr nr cr pv nv cv W hno1 n1)
    clear hO hT hR hV hck l1 r
    go_enter Tryz.func92, Tryz.ntmps92
    go_wp2_with (go_at_call 56; go_must (refine (HC.out _ S0.out.ext).mono ?_; rintro e w1 ⟨rfl, hb⟩; have S1 := Lib.hid (S0.out.call hb); have vz := (S1.out.blk 0 rfl).lt; have v0 := (S1.out.blk 0 rfl).cell 0; have v1 := (S1.out.blk 0 rfl).cell 1; have v2 := (S1.out.blk 0 rfl).cell 2; have v3 := (S1.out.blk 0 rfl).cell 3; have zz := (S1.out.blk 1 rfl).lt; have z0 := (S1.out.blk 1 rfl).cell 0; have z1 := (S1.out.blk 1 rfl).cell 1; have z2 := (S1.out.blk 1 rfl).cell 2; have z3 := (S1.out.blk 1 rfl).cell 3; have zf0 := (S1.out.blk 1 rfl).frozen 0; have zf1 := (S1.out.blk 1 rfl).frozen 1; have zf2 := (S1.out.blk 1 rfl).frozen 2; have zf3 := (S1.out.blk 1 rfl).frozen 3; clear hb))
    go_loopw [8, 17] (fun _ i wr => ∃ k : Nat, k ≤ m ∧ i = .int .i64 k ∧ Hid ((l.take k).all (fun x => decide (0 ≤ x) && decide (x < (O.length : Int) - 1)) = true) ∧ Sep w wr [.blk (w.heap.size + 1 + 1) 136 #[.slice po no co, .slice pt nt ct, .slice pr nr cr, .slice pv nv cv], .blk (w.heap.size + 1) 136 #[.slice none 0 0, .slice none 0 0, .slice none 0 0, .slice none 0 0], .blk w.heap.size 41 #[.slice po no co, .slice pt nt ct, .slice pr nr cr, .slice pv nv cv]]) (fun _ i _ => m - (intOf i).toNat)
    case atStart => exact ⟨0, Nat.zero_le _, rfl, rfl, S1.out⟩
    case round =>
      clear S0 S1 v0 v1 v2 v3 vz z0 z1 z2 z3 zz zf0 zf1 zf2 zf3
      obtain ⟨k, hk, rfl, ha, S⟩ := hrel
      have vz := (S.blk 0 rfl).lt; have v0 := (S.blk 0 rfl).cell 0; have v1 := (S.blk 0 rfl).cell 1; have v2 := (S.blk 0 rfl).cell 2; have v3 := (S.blk 0 rfl).cell 3
      have zz := (S.blk 1 rfl).lt; have z0 := (S.blk 1 rfl).cell 0; have z1 := (S.blk 1 rfl).cell 1; have z2 := (S.blk 1 rfl).cell 2; have z3 := (S.blk 1 rfl).cell 3
      have zf0 := (S.blk 1 rfl).frozen 0
      have zf1 := (S.blk 1 rfl).frozen 1
      have zf2 := (S.blk 1 rfl).frozen 2
      have zf3 := (S.blk 1 rfl).frozen 3
      by_cases hlt : k < m
      · have g1 := S.ext.cell (HL.out.cI hlt)
        have d1 : (0:Int) ≤ k := by omega
        have d2 : (k:Int) < m := by omega
        have hkL : k < l.length := by rw [← L1.out]; exact hlt
        obtain ⟨x, hx⟩ : ∃ x, x = nth l k := ⟨_, rfl⟩
        rw [← hx] at g1
        have HX := Lib.hid hx
        clear hx
        by_cases h1 : x < 0
        · have e1 : decide (x < 0) = true := by simpa using h1
          have HF : Hid (openC true O l = 1) := by
            unfold Hid openC
            rw [if_pos rfl, if_neg]
            rw [all_false_at _ l k hkL (by rw [← HX.out]; simp; omega)]; simp
          clear h1
          have SH := Lib.hid S; clear S
          go_wp2
          have S7 := (((SH.out.set 1 rfl 0 (.slice po no co)).set 1 rfl 1 (.slice pt nt ct)).set 1 rfl 2 (.slice pr nr cr)).set 1 rfl 3 (.slice pv nv cv)
          have b0 := (S7.blk 1 rfl).cell 0
          have b1 := (S7.blk 1 rfl).cell 1
          have b2 := (S7.blk 1 rfl).cell 2
          have b3 := (S7.blk 1 rfl).cell 3
          refine bodyPost_ret (v := .tuple #[.agg #[.slice po no co, .slice pt nt ct, .slice pr nr cr, .slice pv nv cv], .int .i64 1]) (by simp [results, Tryz.results92, go_sem, b0, b1, b2, b3, Tryz.sizeOf136, Tryz.isAgg136]) rfl ⟨(by rw [HF.out]), S7.ext⟩
        · have e1 : decide (x < 0) = false := by simpa using h1
          by_cases h2 : (no:Int) - 1 ≤ x
          · have e2 : decide ((no:Int) - 1 ≤ x) = true := by simpa using h2
            have HF : Hid (openC true O l = 1) := by
              unfold Hid openC
              rw [if_pos rfl, if_neg]
              have := LO.out
              rw [all_false_at _ l k hkL (by rw [← HX.out]; simp; omega)]; simp
            clear h1 h2
            have SH := Lib.hid S; clear S
            go_wp2_with (go_at_call 94; go_must (refine (HSZ.out _).mono ?_; rintro e w2 ⟨rfl, hb⟩; have S2 := Lib.hid (SH.out.call hb); have tz := (S2.out.blk 0 rfl).lt; have t0 := (S2.out.blk 0 rfl).cell 0; have t1 := (S2.out.blk 0 rfl).cell 1; have t2 := (S2.out.blk 0 rfl).cell 2; have t3 := (S2.out.blk 0 rfl).cell 3; have yz := (S2.out.blk 1 rfl).lt; have y0 := (S2.out.blk 1 rfl).cell 0; have y1 := (S2.out.blk 1 rfl).cell 1; have y2 := (S2.out.blk 1 rfl).cell 2; have y3 := (S2.out.blk 1 rfl).cell 3; have yf0 := (S2.out.blk 1 rfl).frozen 0; have yf1 := (S2.out.blk 1 rfl).frozen 1; have yf2 := (S2.out.blk 1 rfl).frozen 2; have yf3 := (S2.out.blk 1 rfl).frozen 3; clear hb))
            have S7 := (((S2.out.set 1 rfl 0 (.slice po no co)).set 1 rfl 1 (.slice pt nt ct)).set 1 rfl 2 (.slice pr nr cr)).set 1 rfl 3 (.slice pv nv cv)
            have b0 := (S7.blk 1 rfl).cell 0
            have b1 := (S7.blk 1 rfl).cell 1
            have b2 := (S7.blk 1 rfl).cell 2
            have b3 := (S7.blk 1 rfl).cell 3
            refine bodyPost_ret (v := .tuple #[.agg #[.slice po no co, .slice pt nt ct, .slice pr nr cr, .slice pv nv cv], .int .i64 1]) (by simp [results, Tryz.results92, go_sem, b0, b1, b2, b3, Tryz.sizeOf136, Tryz.isAgg136]) rfl ⟨(by rw [HF.out]), S7.ext⟩
          · have e2 : decide ((no:Int) - 1 ≤ x) = false := by simpa using h2
            have HS : Hid ((l.take (k + 1)).all (fun x => decide (0 ≤ x) && decide (x < (O.length : Int) - 1)) = true) := by
              have := LO.out
              exact all_step _ l k hkL ha.out (by rw [← HX.out]; simp; omega)
            clear h1 h2 ha
            have SH := Lib.hid S; clear S
            go_wp2_with (go_at_call 94; go_must (refine (HSZ.out _).mono ?_; rintro e w2 ⟨rfl, hb⟩; have S2 := Lib.hid (SH.out.call hb); clear hb))
            go_roundw
            case rel => exact ⟨k + 1, by omega, by go_num, HS.out, S2.out⟩
            case measure => simp [intOf]; omega
      · have HF : Hid (openC true O l = 0) := by
          unfold Hid openC
          rw [if_pos rfl, if_pos (all_end _ l k (by rw [← L1.out]; exact hlt) ha.out)]
        clear ha
        have SH := Lib.hid S; clear S
        go_wp2
        have S7 := (((SH.out.set 1 rfl 0 (.slice po no co)).set 1 rfl 1 (.slice pt nt ct)).set 1 rfl 2 (.slice pr nr cr)).set 1 rfl 3 (.slice pv nv cv)
        have b0 := (S7.blk 1 rfl).cell 0
        have b1 := (S7.blk 1 rfl).cell 1
        have b2 := (S7.blk 1 rfl).cell 2
        have b3 := (S7.blk 1 rfl).cell 3
        refine bodyPost_ret (v := .tuple #[.agg #[.slice po no co, .slice pt nt ct, .slice pr nr cr, .slice pv nv cv], .int .i64 0]) (by simp [results, Tryz.results92, go_sem, b0, b1, b2, b3, Tryz.sizeOf136, Tryz.isAgg136]) rfl ⟨(by rw [HF.out]), S7.ext⟩
end Go.Proofs.YtkekibnhmfmhmaaGreat
/- A range over a function whose yields point to memory: what is yielded is told with a relation of the value and the world. -/
namespace Go.Proofs.YtkekibnhmfmhmaaGreat
open Go Go.RowKit
/-- what speaks of no more than what lies below B -/
def FarFrom {β : Type} (B : Nat) (I : β → World → Prop) : Prop :=
  ∀ s Z W W', B ≤ Z.heap.size → Below B Z W → Below B Z W' → I s W → I s W'
theorem FarFrom.below {β : Type} {B : Nat} {I : β → World → Prop} (h : FarFrom B I) {s : β} {W W' : World} (hB : B ≤ W.heap.size) (hb : Below B W W') (hs : I s W) : I s W' := h s W W W' hB (Below.refl _ _) hb hs
theorem FarFrom.putObj {β : Type} {B : Nat} {I : β → World → Prop} (h : FarFrom B I) {s : β} {W : World} {l : Nat} {o : Obj} (o' : Obj) (hs : I s W) (hB : B ≤ l) (hl : W.heap[l]? = some o) : I s (W.putObj l o') :=
  h.below (by have := (Array.getElem?_eq_some_iff.1 hl).1; omega) ((Below.refl B W).grown (grownBy_putObj' W l o') (by have := (Array.getElem?_eq_some_iff.1 hl).1; omega) (fun k e => by cases e; exact hB)) hs
/-- an iterator's contract: each yield comes with A of the value and the world; the iterator may write what it has made -/
def SeqA {α : Type} (F : Fence) (n : Nat) (P : Program) (g : Nat) (lb : Array Value) (encs : α → Array Value) (A : α → World → Prop) (Kp : World → World → Prop) (S Sp : List α → Prop) (N : Nat) (w : World) : Prop :=
  ∀ (l : Nat) (J Jx : List α → World → Prop) (W : World), Below w.heap.size w W → FarFrom W.heap.size J → FarFrom W.heap.size Jx →
    (∀ pre x V, J pre V → A x V → pre.length < N → YieldAt F (n - 1) P l (encs x) V fun e V' =>
      (e = .returned (.bool true) ∧ J (pre ++ [x]) V' ∧ Kp V V') ∨ (e = .returned (.bool false) ∧ Jx (pre ++ [x]) V')) →
    J [] W → CallsIn F n P g (#[.func (.yield l) #[] #[]] ++ lb) W fun e V => (∃ v, e = .returned v) ∧ ((∃ xs, S xs ∧ J xs V) ∨ (∃ pre, Sp pre ∧ Jx pre V))
section
variable {F : Fence} {n : Nat} {P : Program} {w : World}
theorem wpIn_rangeFunc_told {α : Type} {g : Operand} {ps : Array Tmp} {assign body : Code} {Q : Exit → Act → World → Prop} {a : Act}
    (hro : F.round = none) (h1 : 1 ≤ n) {gf : Nat} {lb : Array Value} (hg : a.eval g = .func (.func gf) #[] lb) (hF : F.fn gf) (eg : ∀ args w, (callFunc gf args).run P w = .ok (.enter gf args) w)
    {encs : α → Array Value} {A : α → World → Prop} {Kp : World → World → Prop} {S Sp : List α → Prop} {N : Nat} {w0 : World} (hseq : SeqA F (n - 1) P gf lb encs A Kp S Sp N w0)
    (hKt : ∀ {X Y Z : World}, Kp X Y → Kp Y Z → Kp X Z) (hKb : ∀ (W : World) (l : Nat) (o o' : Obj), w.heap.size ≤ l → W.heap[l]? = some o → o.isCells = false → o.isWalk = false → Kp W (W.putObj l o')) (hb0 : Below w0.heap.size w0 w) (hps : ∀ x, (encs x).size = ps.size)
    (I : List α → World → Prop) (Ix : Code → List α → World → Prop) (hI : FarFrom w.heap.size I) (hIx : ∀ c, FarFrom w.heap.size (Ix c)) (hA : OwnFrom w.heap.size A) (h0 : I [] w) (a₁ : α → Act)
    (hassign : ∀ (l : Nat) (x : α) (W : World) (K : Act → World → Prop), K (a₁ x) W →
      assign.wpIn (F.inRound l) (n - 1 - 1) P (Exit.then K (fun _ _ _ => False)) { tmps := (ps.zip (encs x)).foldl (fun t (p, v) => t.setIfInBounds p v) a.tmps, defers := [] } W)
    (hbody : ∀ (l : Nat) (pre : List α) (x : α) (W : World), I pre W → A x W → pre.length < N → body.wpIn (F.inRound l) (n - 1 - 1) P (ownPostG w.heap.size Kp I Ix (pre ++ [x]) W) (a₁ x) W)
    (hdone : ∀ (D : Nat) (xs : List α) (W : World), w.heap.size ≤ D → S xs → I xs W → W.heap[D]? = some (.deferred (some [])) → Q .normal { a with defers := { target := .collected D, args := #[] } :: a.defers } W)
    (hstop : ∀ (D : Nat) (c : Code) (pre : List α) (W : World), w.heap.size ≤ D → Sp pre → Ix c pre W → W.heap[D]? = some (.deferred (some [])) → c.wpIn F n P Q { a with defers := { target := .collected D, args := #[] } :: a.defers } W) :
    (Code.rangeFunc g ps assign body).wpIn F n P Q a w := by
  refine wpIn_rangeFunc fun fn hfn => ?_
  rw [hro]
  have hB : w.heap.size ≤ w.heap.size + 1 := Nat.le_succ _
  obtain ⟨mk, hmk⟩ : ∃ mk : LoopState → Option Code → Loop, mk = fun st pe => { state := st, pending := pe, fn, tmps := a.tmps, params := ps, assign, body, defers := w.heap.size } := ⟨_, rfl⟩
  obtain ⟨V, hV⟩ : ∃ V, (w.alloc (.deferred (some []))).alloc (.loop (mk .ready none)) = V := ⟨_, rfl⟩
  have hVl : V.heap[w.heap.size + 1]? = some (.loop (mk .ready none)) := by
    have h := World.alloc_heap_new (w.alloc (.deferred (some []))) (.loop (mk .ready none))
    rw [World.size_alloc] at h
    rw [← hV]; exact h
  have hVd : V.heap[w.heap.size]? = some (.deferred (some [])) := by
    rw [← hV]; exact (Below.heap_alloc _ _ _ (by simp)).trans (World.alloc_heap_new w _)
  have hVb : Below w0.heap.size w0 V := by
    rw [← hV]; exact hb0.trans ((((Below.refl _ w).alloc (Nat.le_refl _) _).alloc (by simp) _).mono hb0.size)
  have hVs : w.heap.size ≤ V.heap.size := by have := (Array.getElem?_eq_some_iff.1 hVd).1; omega
  have hV0 : I [] V := by rw [← hV]; exact hI.below (Nat.le_refl _) (((Below.refl _ w).alloc (Nat.le_refl _) _).alloc (by simp) _) h0
  have lV : w.heap.size + 1 < V.heap.size := (Array.getElem?_eq_some_iff.1 hVl).1
  -- the two blocks of book-keeping lie below what the iterator makes
  have keep : ∀ {Z X Y : World} {k : Nat} {o : Obj}, Below V.heap.size Z X → Below V.heap.size Z Y → k < V.heap.size → X.heap[k]? = some o → Y.heap[k]? = some o := fun {Z X Y k o} h1 h2 hk hX => (h2.block k hk).trans ((h1.block k hk).symm.trans hX)
  refine ⟨w.heap.size + 1, [{ target := .collected w.heap.size, args := #[] }], V, { target := .fn (.func gf) lb, args := #[.func (.yield (w.heap.size + 1)) #[] #[]] }, V, gf, #[.func (.yield (w.heap.size + 1)) #[] #[]] ++ lb, V, ?_, ?_, ?_, ?_, fun _ => h1, ?_⟩
  · rw [← hV, hmk]; exact run_enterLoop_outer _ _ _ _ _
  · simp only [resolve, hg]; simp [go_sem]
  · intro f' hf'; simp [Target.leads] at hf'; subst hf'; exact hF
  · simp [invoke, go_sem, eg]
  refine (hseq (w.heap.size + 1)
    (fun pre W => I pre W ∧ W.heap[w.heap.size + 1]? = some (.loop (mk .ready none)) ∧ W.heap[w.heap.size]? = some (.deferred (some [])))
    (fun pre W => ∃ c, Ix c pre W ∧ W.heap[w.heap.size + 1]? = some (.loop (mk .done (some c))) ∧ W.heap[w.heap.size]? = some (.deferred (some []))) V hVb
    (fun s Z X Y hZ hx hy h => ⟨hI s Z X Y (Nat.le_trans hVs hZ) (hx.mono hVs) (hy.mono hVs) h.1, keep hx hy lV h.2.1, keep hx hy (by omega) h.2.2⟩)
    (fun s Z X Y hZ hx hy h => h.elim fun c h => ⟨c, hIx c s Z X Y (Nat.le_trans hVs hZ) (hx.mono hVs) (hy.mono hVs) h.1, keep hx hy lV h.2.1, keep hx hy (by omega) h.2.2⟩)
    ?_ ⟨hV0, hVl, hVd⟩).mono ?_
  · rintro pre x W ⟨hi, hl, hk⟩ hax hlen
    have hlt : w.heap.size + 1 < W.heap.size := (Array.getElem?_eq_some_iff.1 hl).1
    have hy := run_yield (P := P) (args := encs x) hl (by rw [hmk]; exact hps x)
    rw [hmk] at hy
    refine ⟨fn, _, assign, body, hy, roundIn_of_wpIn hfn (hassign _ x W _ ⟨_, run_beginRound hl (by rw [hmk]), ?_⟩)⟩
    have l2 : (W.putObj (w.heap.size + 1) (.loop { mk .ready none with state := .busy })).heap[w.heap.size + 1]? = some (.loop { mk .ready none with state := .busy }) := World.putObj_heap_same hlt
    have k2 : (W.putObj (w.heap.size + 1) (.loop { mk .ready none with state := .busy })).heap[w.heap.size]? = some (.deferred (some [])) := (World.putObj_heap_other (by omega)).trans hk
    have p2 : Kp W (W.putObj (w.heap.size + 1) (.loop { mk .ready none with state := .busy })) := hKb _ _ _ _ hB hl rfl rfl
    refine wpIn_mono (hbody _ pre x _ (hI.putObj _ hi hB hl) (hA.putObj _ hax hB hl rfl) hlen) ?_
    have fin : ∀ (jump : Option Code) (X : World), KeepsFrom w.heap.size (W.putObj (w.heap.size + 1) (.loop { mk .ready none with state := .busy })) X →
        (Instr.endRound (w.heap.size + 1) jump).run P X = .ok (.bool jump.isNone) (X.putObj (w.heap.size + 1) (.loop (mk (if jump.isNone then .ready else .done) jump))) ∧
        X.heap[w.heap.size + 1]? = some (.loop { mk .ready none with state := .busy }) ∧
        (X.putObj (w.heap.size + 1) (.loop (mk (if jump.isNone then .ready else .done) jump))).heap[w.heap.size + 1]? = some (.loop (mk (if jump.isNone then .ready else .done) jump)) ∧
        (X.putObj (w.heap.size + 1) (.loop (mk (if jump.isNone then .ready else .done) jump))).heap[w.heap.size]? = some (.deferred (some [])) := fun jump X hX => by
      have l3 := hX.same _ _ hB l2 rfl
      have hr := run_endRound (P := P) jump l3
      rw [hmk] at hr l3 ⊢
      exact ⟨hr, l3, World.putObj_heap_same (Array.getElem?_eq_some_iff.1 l3).1, (World.putObj_heap_other (by omega)).trans (hX.same _ _ (Nat.le_refl _) k2 rfl)⟩
    rintro e a3 X hp
    cases e with
    | normal =>
      obtain ⟨hX, hkp, hi3⟩ := hp
      obtain ⟨r1, r2, r3, r4⟩ := fin none X hX
      exact ⟨_, _, r1, .inl ⟨rfl, ⟨hI.putObj _ hi3 hB r2, r3, r4⟩, hKt (hKt p2 hkp) (hKb _ _ _ _ hB r2 rfl rfl)⟩⟩
    | ret =>
      obtain ⟨r1, r2, r3, r4⟩ := fin (some .ret) X hp.1
      exact ⟨_, _, r1, .inr ⟨rfl, .ret, (hIx _).putObj _ hp.2 hB r2, r3, r4⟩⟩
    | exit id =>
      obtain ⟨r1, r2, r3, r4⟩ := fin (some (.exit id)) X hp.1
      exact ⟨_, _, r1, .inr ⟨rfl, .exit id, (hIx _).putObj _ hp.2 hB r2, r3, r4⟩⟩
    | goto t =>
      obtain ⟨r1, r2, r3, r4⟩ := fin (some (.goto t)) X hp.1
      exact ⟨_, _, r1, .inr ⟨rfl, .goto t, (hIx _).putObj _ hp.2 hB r2, r3, r4⟩⟩
    | panic ch => exact hp.elim
    | outgrown => exact hp.elim
  · rintro e X ⟨⟨v, rfl⟩, (⟨xs, hS, hi, hl, hk⟩ | ⟨pre, hSp, c, hi, hl, hk⟩)⟩
    · have hr := run_endLoop (P := P) hl (by rw [hmk]; simp)
      rw [hmk] at hr
      exact ⟨none, _, hr, hdone _ xs _ (Nat.le_refl _) hS (hI.putObj _ hi hB hl) ((World.putObj_heap_other (by omega)).trans hk)⟩
    · have hr := run_endLoop (P := P) hl (by rw [hmk]; simp)
      rw [hmk] at hr
      exact ⟨some c, _, hr, hstop _ c pre _ (Nat.le_refl _) hSp ((hIx c).putObj _ hi hB hl) ((World.putObj_heap_other (by omega)).trans hk)⟩
end
/-- a world up to a block -/
def cutW (B : Nat) (w : World) : World := { w with heap := w.heap.extract 0 B }
theorem cutW_size {B : Nat} {w : World} (h : B ≤ w.heap.size) : (cutW B w).heap.size = B := by simp [cutW]; omega
theorem cutW_below {B : Nat} {w : World} (h : B ≤ w.heap.size) : Below B (cutW B w) w :=
  ⟨rfl, rfl, rfl, by rw [cutW_size h]; exact h, fun k hk => by
    show w.heap[k]? = (w.heap.extract 0 B)[k]?
    rw [Array.getElem?_extract]
    simp
    intro h2; omega⟩
/-- pieces that lie at B and behind, seen from the world up to B -/
theorem Sep.rebase {w0 w w' : World} {Γ : List Pc} {B : Nat} (S : Sep w0 w Γ) (h0 : w0.heap.size = B) (hB : B ≤ w'.heap.size) (hsame : ∀ p ∈ Γ, ∀ k, p.foot k → w'.heap[k]? = w.heap[k]?) : Sep (cutW B w') w' Γ :=
  ⟨by rw [Ext, cutW_size hB]; exact cutW_below hB, fun p hp => p.loc w w' (S.all p hp) (hsame p hp), fun p hp k hk => by rw [cutW_size hB, ← h0]; exact S.new p hp k hk, S.apart⟩
/-- pieces that lie below B speak of no more -/
theorem Sep.far {w0 w w' Z : World} {Γ : List Pc} {B : Nat} (S : Sep w0 w Γ) (h0 : w0.heap.size ≤ B) (hZ : B ≤ Z.heap.size) (h1 : Below B Z w) (h2 : Below B Z w') (hf : ∀ p ∈ Γ, ∀ k, p.foot k → k < B) : Sep w0 w' Γ :=
  ⟨⟨h2.os.trans (h1.os.symm.trans S.ext.os), h2.tape.trans (h1.tape.symm.trans S.ext.tape), h2.output.trans (h1.output.symm.trans S.ext.output), by have := h2.size; omega, fun k hk => (h2.block k (by omega)).trans ((h1.block k (by omega)).symm.trans (S.ext.block k hk))⟩,
    fun p hp => p.loc w w' (S.all p hp) fun k hk => (h2.block k (hf p hp k hk)).trans (h1.block k (hf p hp k hk)).symm, S.new, S.apart⟩
end Go.Proofs.YtkekibnhmfmhmaaGreat
/- Equal rows, equal edges, rows too big, a row that rises and has a number. -/
namespace Go.Proofs.YtkekibnhmfmhmaaGreat
open Go Go.RowKit Go.Shelf Go.Lib
attribute [local go_sem ↓] eqEdge neqEdge guardEdge
theorem IntsY (p q : Option Addr) (n m c d : Nat) (A : List Int) (w : World) (h1 : Rd w 1 p n (encI A)) (h2 : Rd w 1 q m (encI A)) : Calls Tryz.prog 38 #[.slice p n c, .slice q m d] w fun e w' => e = .returned (.bool true) ∧ Ext w w' :=
  (Ints01 p q n m c d A A w h1 h2).mono fun e w' ⟨h3, h4⟩ => ⟨by rw [h3]; simp, h4⟩
set_option maxRecDepth 100000 in
set_option maxHeartbeats 2000000 in
theorem Same04T (po : Option Addr) (no co : Nat) (O : List Int) (pt : Option Addr) (nt ct : Nat) (T : List Int) (pr : Option Addr) (nr cr : Nat) (R : List Int) (pv : Option Addr) (nv cv : Nat) (V : List Int) (po' : Option Addr) (no' co' : Nat) (pt' : Option Addr) (nt' ct' : Nat) (pr' : Option Addr) (nr' cr' : Nat) (pv' : Option Addr) (nv' cv' : Nat) (w : World) (hO : Rd w 1 po no (encI O)) (hT : Rd w 1 pt nt (encI T)) (hR : Rd w 1 pr nr (encI R)) (hV : Rd w 1 pv nv (encI V))
    (hO' : Rd w 1 po' no' (encI O)) (hT' : Rd w 1 pt' nt' (encI T)) (hR' : Rd w 1 pr' nr' (encI R)) (hV' : Rd w 1 pv' nv' (encI V)) :
    Calls Tryz.prog 26 #[.agg #[.slice po no co, .slice pt nt ct, .slice pr nr cr, .slice pv nv cv], .agg #[.slice po' no' co', .slice pt' nt' ct', .slice pr' nr' cr', .slice pv' nv' cv']] w fun e w' => e = .returned (.bool true) ∧ Ext w w' := by
  have H1 := Lib.hid (fun W1 (h : Ext w W1) => IntsY po po' no no' co co' O W1 (hO.ext h) (hO'.ext h))
  have H2 := Lib.hid (fun W1 (h : Ext w W1) => IntsY pt pt' nt nt' ct ct' T W1 (hT.ext h) (hT'.ext h))
  have H3 := Lib.hid (fun W1 (h : Ext w W1) => IntsY pr pr' nr nr' cr cr' R W1 (hR.ext h) (hR'.ext h))
  have H4 := Lib.hid (fun W1 (h : Ext w W1) => IntsY pv pv' nv nv' cv cv' V W1 (hV.ext h) (hV'.ext h))
  have S0 := Lib.hid (((Sep.start w).al #[.slice po no co, .slice pt nt ct, .slice pr nr cr, .slice pv nv cv] 41 w.heap.size rfl).al #[.slice po' no' co', .slice pt' nt' ct', .slice pr' nr' cr', .slice pv' nv' cv'] 41 (w.heap.size + 1) (by simp))
  clear hO hT hR hV hO' hT' hR' hV'
  go_enter Tryz.func26, Tryz.ntmps26
  go_wp2_with (first | (go_at_call 38; have _t := S3; go_must (refine (H4.out _ S3.out.ext).mono ?_; rintro e w4 ⟨rfl, hb⟩; have S4 := Lib.hid (S3.out.call hb); have w4a0 := (S4.out.blk 1 rfl).cell 0; have w4a1 := (S4.out.blk 1 rfl).cell 1; have w4a2 := (S4.out.blk 1 rfl).cell 2; have w4a3 := (S4.out.blk 1 rfl).cell 3; have w4az := (S4.out.blk 1 rfl).lt; have w4b0 := (S4.out.blk 0 rfl).cell 0; have w4b1 := (S4.out.blk 0 rfl).cell 1; have w4b2 := (S4.out.blk 0 rfl).cell 2; have w4b3 := (S4.out.blk 0 rfl).cell 3; have w4bz := (S4.out.blk 0 rfl).lt; clear hb)) | (go_at_call 38; have _t := S2; go_must (refine (H3.out _ S2.out.ext).mono ?_; rintro e w3 ⟨rfl, hb⟩; have S3 := Lib.hid (S2.out.call hb); have w3a0 := (S3.out.blk 1 rfl).cell 0; have w3a1 := (S3.out.blk 1 rfl).cell 1; have w3a2 := (S3.out.blk 1 rfl).cell 2; have w3a3 := (S3.out.blk 1 rfl).cell 3; have w3az := (S3.out.blk 1 rfl).lt; have w3b0 := (S3.out.blk 0 rfl).cell 0; have w3b1 := (S3.out.blk 0 rfl).cell 1; have w3b2 := (S3.out.blk 0 rfl).cell 2; have w3b3 := (S3.out.blk 0 rfl).cell 3; have w3bz := (S3.out.blk 0 rfl).lt; clear hb)) | (go_at_call 38; have _t := S1; go_must (refine (H2.out _ S1.out.ext).mono ?_; rintro e w2 ⟨rfl, hb⟩; have S2 := Lib.hid (S1.out.call hb); have w2a0 := (S2.out.blk 1 rfl).cell 0; have w2a1 := (S2.out.blk 1 rfl).cell 1; have w2a2 := (S2.out.blk 1 rfl).cell 2; have w2a3 := (S2.out.blk 1 rfl).cell 3; have w2az := (S2.out.blk 1 rfl).lt; have w2b0 := (S2.out.blk 0 rfl).cell 0; have w2b1 := (S2.out.blk 0 rfl).cell 1; have w2b2 := (S2.out.blk 0 rfl).cell 2; have w2b3 := (S2.out.blk 0 rfl).cell 3; have w2bz := (S2.out.blk 0 rfl).lt; clear hb)) | (go_at_call 38; have _t := S0; go_must (refine (H1.out _ S0.out.ext).mono ?_; rintro e w1 ⟨rfl, hb⟩; have S1 := Lib.hid (S0.out.call hb); have w1a0 := (S1.out.blk 1 rfl).cell 0; have w1a1 := (S1.out.blk 1 rfl).cell 1; have w1a2 := (S1.out.blk 1 rfl).cell 2; have w1a3 := (S1.out.blk 1 rfl).cell 3; have w1az := (S1.out.blk 1 rfl).lt; have w1b0 := (S1.out.blk 0 rfl).cell 0; have w1b1 := (S1.out.blk 0 rfl).cell 1; have w1b2 := (S1.out.blk 0 rfl).cell 2; have w1b3 := (S1.out.blk 0 rfl).cell 3; have w1bz := (S1.out.blk 0 rfl).lt; clear hb)))
  go_ret
  exact ⟨rfl, S4.out.ext⟩
/-- rows more than are looked at -/
def bigR (O T R V : List Int) : Bool := decide (30 < O.length) && decide (O.length ≤ 201) || decide (250 < O.length) || decide (250 < R.length) || decide (150 < T.length) && decide (T.length ≤ 2000) || decide (2100 < T.length) || decide (2100 < V.length)
set_option maxHeartbeats 2000000 in
theorem Big04 (po : Option Addr) (no co : Nat) (O : List Int) (pt : Option Addr) (nt ct : Nat) (T : List Int) (pr : Option Addr) (nr cr : Nat) (R : List Int) (pv : Option Addr) (nv cv : Nat) (V : List Int) (w : World) (hO : Rd w 1 po no (encI O)) (hT : Rd w 1 pt nt (encI T)) (hR : Rd w 1 pr nr (encI R)) (hV : Rd w 1 pv nv (encI V)) : Calls Tryz.prog 17 #[.agg #[.slice po no co, .slice pt nt ct, .slice pr nr cr, .slice pv nv cv]] w fun e w' => e = .returned (.bool (bigR O T R V)) ∧ Ext w w' := by
  have hd : bigR O T R V = (decide (30 < no) && decide (no ≤ 201) || decide (250 < no) || decide (250 < nr) || decide (150 < nt) && decide (nt ≤ 2000) || decide (2100 < nt) || decide (2100 < nv)) := by
    unfold bigR; rw [hO.nI, hT.nI, hR.nI, hV.nI]
  rw [hd]
  clear hd hO hT hR hV
  go_enter Tryz.func17, Tryz.ntmps17
  go_wp2
  all_goals (go_ret; refine ⟨ret_bool ?_, Ext.alloc (Below.refl _ _) _⟩; rw [Bool.eq_iff_iff]; simp only [Bool.or_eq_true, Bool.and_eq_true, decide_eq_true_eq, true_iff]; omega)
end Go.Proofs.YtkekibnhmfmhmaaGreat
/- A row that rises: has it a number? -/
namespace Go.Proofs.YtkekibnhmfmhmaaGreat
open Go Go.RowKit
theorem inB_take_succ (l : List Int) (x : Int) (k : Nat) (h : k < l.length) : inB (l.take (k + 1)) x = (inB (l.take k) x || (nth l k == x)) := by
  unfold inB
  rw [take_succ_nth l k h, List.any_append]; simp
end Go.Proofs.YtkekibnhmfmhmaaGreat
/- What chapter 8's laws say, in plain words. -/
namespace Go.Proofs.YtkekibnhmfmhmaaGreat
open Go Go.RowKit
section
variable {nx nb : Nat → List Int} {n s t : Nat} (h : Rev nx nb n) (hs : s < n) (ht : t < n)
include h hs ht in
theorem half_law : stepsN n (lev nx n s) (lev nb n t) ≤ n ∧ (0 ≤ lev nx n s t → lev nx n s t = 2 * (stepsN n (lev nx n s) (lev nb n t) : Int) ∨ lev nx n s t = 2 * (stepsN n (lev nx n s) (lev nb n t) : Int) - 1) := by
  have hl := lev_lt (nx := nx) hs ht
  by_cases h0 : 0 ≤ lev nx n s t
  · have h1 := steps_yes h hs ht h0 (n + 1) 0 (by omega) (by omega)
    unfold stepsN
    rw [h1]
    refine ⟨by omega, fun _ => by omega⟩
  · have h1 := steps_no h hs ht (by omega) (n + 1) 0 (by omega) (.inl rfl)
    unfold stepsN
    exact ⟨by omega, fun h => absurd h h0⟩
end
/-- the path, as numbers -/
def pathI (nx : Nat → List Int) (g : Nat → Int) (k u : Nat) : List Int := (pathL nx g k u).map fun x : Nat => (x : Int)
theorem pathI_len (nx : Nat → List Int) (g : Nat → Int) (k u : Nat) : (pathI nx g k u).length = k + 1 := by unfold pathI; rw [List.length_map, pathL_len]
theorem nth_map_nat (l : List Nat) (i : Nat) (h : i < l.length) : nth (l.map fun x : Nat => (x : Int)) i = ((nth l i : Nat) : Int) := by
  rw [nth_eq (by rw [List.length_map]; exact h), nth_eq h, List.getElem_map]
theorem pathI_nth (nx : Nat → List Int) (g : Nat → Int) (k u : Nat) {i : Nat} (h : i ≤ k) : nth (pathI nx g k u) i = ((nth (pathL nx g k u) i : Nat) : Int) := nth_map_nat _ i (by rw [pathL_len]; omega)
/-- what Path tells -/
def pathR (nx nb : Nat → List Int) (n s t : Nat) : List Int := if 0 ≤ lev nx n s t then pathI nx (lev nb n t) (lev nx n s t).toNat s else []
theorem rising_nodup {l : List Int} (h : l.Nodup) : (putAll ltI l).length = l.length := by
  have h1 := putAll_rises stoI l
  have h2 : (putAll ltI l).Nodup := List.Pairwise.imp (fun {a b} hab e => by subst e; have := stoI.irrefl a; rw [hab] at this; cases this) h1
  exact ((List.perm_ext_iff_of_nodup h2 h).2 fun x => putAll_mem stoI l x).length_eq
section
variable {nx nb : Nat → List Int} {n s t : Nat} (h : Rev nx nb n) (hin : InN nx n) (hs : s < n) (ht : t < n) (h0 : 0 ≤ lev nx n s t)
include h hs ht h0 in
theorem lev_nb : lev nb n t s = ((lev nx n s t).toNat : Nat) := by rw [← lev_rev h hs ht]; omega
include h hin hs ht h0
theorem path_law : pathR nx nb n s t = pathI nx (lev nb n t) (lev nx n s t).toNat s ∧ ((pathR nx nb n s t).length : Int) = lev nx n s t + 1 ∧ nth (pathR nx nb n s t) 0 = s ∧ nth (pathR nx nb n s t) (lev nx n s t).toNat = t ∧ (pathR nx nb n s t).Nodup := by
  have e : pathR nx nb n s t = pathI nx (lev nb n t) (lev nx n s t).toNat s := by unfold pathR; rw [if_pos h0]
  rw [e]
  refine ⟨rfl, by rw [pathI_len]; omega, ?_, ?_, ?_⟩
  · rw [pathI_nth _ _ _ _ (Nat.zero_le _), pathL_first]
  · rw [pathI_nth _ _ _ _ (Nat.le_refl _), pathL_last h ht hin hs (lev_nb h hs ht h0)]
  · unfold pathI
    exact List.Pairwise.map _ (fun a b hab e => hab (by exact_mod_cast e)) (pathL_nodup h ht hin hs (lev_nb h hs ht h0))
theorem path_at {i : Nat} (hi : i < (pathR nx nb n s t).length) : ∃ v : Nat, nth (pathR nx nb n s t) i = v ∧ v < n ∧ 0 ≤ lev nx n v t ∧ pathR nx nb n v t = (pathR nx nb n s t).drop i := by
  obtain ⟨e, hl, _, _, _⟩ := path_law h hin hs ht h0
  have hk : i ≤ (lev nx n s t).toNat := by omega
  rw [e]
  obtain ⟨g1, g2, g3⟩ := pathL_at h ht hin _ s hs (lev_nb h hs ht h0) i hk
  generalize hv : nth (pathL nx (lev nb n t) (lev nx n s t).toNat s) i = v at *
  refine ⟨v, by rw [pathI_nth _ _ _ _ hk, hv], g1, ?_, ?_⟩
  · rw [lev_rev h g1 ht, g2]; omega
  · have h1 : lev nx n v t = (((lev nx n s t).toNat - i : Nat) : Int) := by rw [lev_rev h g1 ht, g2]
    unfold pathR
    rw [if_pos (by rw [h1]; omega), h1]
    unfold pathI
    rw [Int.toNat_natCast, ← List.map_drop, g3]
theorem path_next {i : Nat} (hi : i + 1 < (pathR nx nb n s t).length) : nth (pathR nx nb n s t) (i + 1) ∈ nx (nth (pathR nx nb n s t) i).toNat ∧ 0 ≤ nth (pathR nx nb n s t) i ∧ nth (pathR nx nb n s t) i < n := by
  obtain ⟨e, hl, _, _, _⟩ := path_law h hin hs ht h0
  have hk : i < (lev nx n s t).toNat := by omega
  rw [e, pathI_nth _ _ _ _ (by omega), pathI_nth _ _ _ _ (by omega), Int.toNat_natCast]
  refine ⟨(pathL_next h ht hin hs (lev_nb h hs ht h0) hk).1, by omega, ?_⟩
  have := (pathL_at h ht hin _ s hs (lev_nb h hs ht h0) i (by omega)).1
  omega
/-- no lesser next place is as near -/
theorem less_law (hr : Rises ltI (nx s)) (h2 : 1 < (pathR nx nb n s t).length) {y : Int} (hy : y ∈ nx s) (hlt : y < nth (pathR nx nb n s t) 1) : 0 ≤ y ∧ y < n ∧ (0 ≤ lev nx n y.toNat t → ((pathR nx nb n s t).length : Int) - 1 ≤ lev nx n y.toNat t) := by
  obtain ⟨e, hl, _, _, _⟩ := path_law h hin hs ht h0
  obtain ⟨b1, b2⟩ := hin s hs y hy
  refine ⟨b1, b2, fun hy0 => ?_⟩
  obtain ⟨k, hk⟩ : ∃ k, (lev nx n s t).toNat = k + 1 := ⟨(lev nx n s t).toNat - 1, by omega⟩
  have hb := lev_nb h hs ht h0
  rw [hk] at hb
  obtain ⟨x, g1, g2, g3, g4, g5, g6⟩ := stepL_is h ht hin hs hb
  have hx : nth (pathR nx nb n s t) 1 = x := by
    rw [e, pathI_nth _ _ _ _ (by omega), hk, (pathL_next h ht hin hs hb (i := 0) (by omega)).2, pathL_first, g5]
    omega
  rw [hx] at hlt
  have h3 := find_less hr g1 hy hlt
  have h4 : lev nb n t y.toNat ≠ lev nb n t s - 1 := by simpa using h3
  have h5 := lev_rev h (s := y.toNat) (by omega) ht
  have h6 : 0 ≤ lev nx n s t ∧ lev nx n s t ≤ 1 + lev nx n y.toNat t := by
    have hw := lev_wk (s := y.toNat) (by omega) ht hy0
    have h7 : wk nx n s (1 + (lev nx n y.toNat t).toNat) t = true := by
      refine wk_trans (v := y.toNat) ?_ _ t ht hw
      exact wk_succ.2 ⟨s, hs, wk_zero.2 rfl, by rw [Int.toNat_of_nonneg b1]; exact hy⟩
    have := lev_le hs ht h7
    omega
  omega
end
/-- a row of places is a walk -/
def walkB (ck : Bool) (O T l : List Int) : Bool := decide (0 < l.length) && outB ck O (nth l 0) && (List.range (l.length - 1)).all fun i => hasB ck O T (nth l i) (nth l (i + 1))
theorem walk_path {O T R V : List Int} (hck : checkR O T R V = true) {s t : Nat} (hs : s < O.length - 1) (ht : t < O.length - 1) (h0 : 0 ≤ lev (rowL O T) (O.length - 1) s t) : walkB true O T (pathR (rowL O T) (rowL R V) (O.length - 1) s t) = true := by
  have hR : Rev (rowL O T) (rowL R V) (O.length - 1) := nxR_rev hck false
  have hin : InN (rowL O T) (O.length - 1) := nxR_in hck false
  obtain ⟨_, hl, h1, _, _⟩ := path_law hR hin hs ht h0
  have hN := fun i hi => path_next hR hin hs ht h0 (i := i) hi
  generalize pathR (rowL O T) (rowL R V) (O.length - 1) s t = P at *
  unfold walkB
  rw [Bool.and_eq_true, Bool.and_eq_true, List.all_eq_true]
  refine ⟨⟨by simp; omega, by unfold outB; rw [h1]; simp; omega⟩, fun i hi => ?_⟩
  rw [List.mem_range] at hi
  obtain ⟨g1, g2, g3⟩ := hN i (by omega)
  have hb : outB true O (nth P i) = true := by unfold outB; simp; omega
  unfold hasB
  rw [hb, outL_yes hb, Bool.true_and]
  exact (inB_iff _ _).2 g1
end Go.Proofs.YtkekibnhmfmhmaaGreat
/- What Path's two loops keep, in plain words. -/
namespace Go.Proofs.YtkekibnhmfmhmaaGreat
open Go Go.RowKit
section
variable {nx nb : Nat → List Int} {n s t : Nat} (h : Rev nx nb n) (hs : s < n) (ht : t < n)
include hs in
theorem cut_all {k : Nat} (hF : IsFront (lev nx n s) n ((k + 1 : Nat) : Int) []) : cutL (lev nx n s) n k = (List.range n).map fun v => lev nx n s v := by
  have hno : hasL n (lev nx n s) ((k + 1 : Nat) : Int) = false := by
    cases e : hasL n (lev nx n s) ((k + 1 : Nat) : Int) with
    | false => rfl
    | true => exact absurd ((front_has hF).1 e) (by simp)
  unfold cutL
  apply List.map_congr_left
  intro v hv
  rw [List.mem_range] at hv
  unfold cut
  rcases lev_cases (nx := nx) hs hv with ⟨h1, _⟩ | ⟨j, hj, h1, _⟩
  · rw [if_neg (by omega), h1]
  · by_cases hjk : j ≤ k
    · rw [if_pos (by omega)]
    · have := has_below hs (k := j) (j := k + 1) (by omega) (hasL_iff.2 ⟨v, hv, h1⟩)
      rw [hno] at this
      cases this
end
theorem levL_nth {f : Nat → Int} {n v : Nat} (hv : v < n) : nth ((List.range n).map fun v => f v) v = f v := by
  rw [nth_eq (by simpa using hv)]; simp
theorem find_at {p : Int → Bool} {l : List Int} {j : Nat} (hj : j < l.length) (h : (l.take j).find? p = none) (hp : p (nth l j) = true) : l.find? p = some (nth l j) := by
  have e : l = l.take j ++ (nth l j :: l.drop (j + 1)) := by
    rw [nth_eq hj, ← List.drop_eq_getElem_cons hj, List.take_append_drop]
  generalize nth l j = x at *
  rw [e, List.find?_append, h, List.find?_cons_of_pos hp]; rfl
theorem find_step {p : Int → Bool} {l : List Int} {j : Nat} (hj : j < l.length) (h : (l.take j).find? p = none) (hp : p (nth l j) = false) : (l.take (j + 1)).find? p = none := by
  rw [take_succ_nth l j hj, List.find?_append, h, List.find?_cons_of_neg (by simp [hp])]; rfl
section
variable {nx nb : Nat → List Int} {n s t : Nat} (h : Rev nx nb n) (hin : InN nx n) (hs : s < n) (ht : t < n)
include h hin hs ht
/-- a step of the walk -/
theorem walk_step {k : Nat} (hk : lev nb n t s = k) {i : Nat} (hi : i < k) : ∃ a : Nat, nth (pathI nx (lev nb n t) k s) i = a ∧ a < n ∧ lev nb n t a = ((k - i : Nat) : Int) ∧
    (∃ x, (nx a).find? (fun x => lev nb n t x.toNat == ((k - i : Nat) : Int) - 1) = some x) ∧
    ∀ x, (nx a).find? (fun x => lev nb n t x.toNat == ((k - i : Nat) : Int) - 1) = some x → nth (pathI nx (lev nb n t) k s) (i + 1) = x ∧ (pathI nx (lev nb n t) k s).take (i + 2) = (pathI nx (lev nb n t) k s).take (i + 1) ++ [x] := by
  obtain ⟨g1, g2, g3⟩ := pathL_at h ht hin k s hs hk i (by omega)
  have g4 := (pathL_next h ht hin hs hk hi).2
  have e1 := pathI_nth nx (lev nb n t) k s (i := i) (by omega)
  have e2 := pathI_nth nx (lev nb n t) k s (i := i + 1) (by omega)
  have e3 := take_succ_nth (pathI nx (lev nb n t) k s) (i + 1) (by rw [pathI_len]; omega)
  generalize nth (pathL nx (lev nb n t) k s) i = a at *
  obtain ⟨j, hj⟩ : ∃ j, k - i = j + 1 := ⟨k - i - 1, by omega⟩
  obtain ⟨y, q1, q2, q3, q4, q5, q6⟩ := stepL_is h ht hin g1 (by rw [g2, hj])
  rw [g2] at q1
  refine ⟨a, e1, g1, g2, ⟨y, q1⟩, fun x hx => ?_⟩
  rw [q1] at hx
  obtain rfl : y = x := by injection hx
  have e4 : nth (pathI nx (lev nb n t) k s) (i + 1) = y := by rw [e2, g4, q5]; omega
  exact ⟨e4, by rw [show i + 2 = i + 1 + 1 by omega, e3, e4]⟩
end
end Go.Proofs.YtkekibnhmfmhmaaGreat
/- The program's searches (chapter 8): a side that begins. -/
namespace Go.Proofs.YtkekibnhmfmhmaaGreat
open Go Go.RowKit
theorem Sep.alrow {w0 w : World} {Γ : List Pc} (S : Sep w0 w Γ) (cs : Array Value) (e : TypeId) (size n g : Nat) (hg : w.heap.size = g) (hm : n ≤ maxLen) (hs : cs.size = n * size) : Sep w0 (w.alloc (.cells cs e)) (.own e size (some ⟨g, 0, none⟩) n n cs.toList :: Γ) := by
  subst hg
  exact S.fresh (Ext.alloc (Below.refl _ _) _) (World.ownsRow_lit w cs n (Nat.le_refl _) hm hs) (Nat.le_refl _)
set_option maxRecDepth 100000 in
set_option maxHeartbeats 2000000 in
theorem beginG (fid gr n s : Nat) (w : World) (hs : s < n) (hn : n ≤ 200) :
    Calls Tryz.prog 112 #[.int .i64 n, .int .i64 s, .func (.func fid) #[] #[.pointer (some ⟨gr, 0, none⟩)]] w fun e w' => ∃ g ql qf, e = .returned (.pointer (some ⟨g, 0, none⟩)) ∧
      Sep w w' [.blk g 201 #[.func (.func fid) #[] #[.pointer (some ⟨gr, 0, none⟩)], .slice ql n n, .slice qf 1 1], .own 3 1 qf 1 1 (encI [(s : Int)]), .own 3 1 ql n n (encI (bf0 n s))] := by
  obtain ⟨i0, hi0, hz0, hz1, hz2⟩ := info_parts infI
  go_enter Tryz.func112, Tryz.ntmps112
  go_wp2_with (at_make; go_must (refine wpList_make_sep rfl _ _ _ rfl 3 i0 _ 1 Tryz.underlying39 hi0 hz0 hz1 (n:Int) n rfl rfl rfl (by rw [hz2]; omega) (by unfold maxLen; omega) (Sep.start w) ?_; intro w1 S'; rw [made_encI] at S'; have S1 := Lib.hid S'; clear S'))
  generalize hql : (some ⟨w.heap.size, 0, none⟩ : Option Addr) = ql at *
  clear hql
  have S2 := Lib.hid ((S1.out.alrow #[.int .i64 (s:Int)] 3 1 1 w1.heap.size rfl (by decide) rfl).al #[.func (.func fid) #[] #[.pointer (some ⟨gr, 0, none⟩)], .slice ql n n, .slice (some ⟨w1.heap.size, 0, none⟩) 1 1] 201 (w1.heap.size + 1) (by simp))
  clear S1
  go_loopw [8, 21] (fun _ i wr => ∃ k : Nat, k ≤ n ∧ i = .int .i64 k ∧ Sep w wr [.blk (w1.heap.size + 1) 201 #[.func (.func fid) #[] #[.pointer (some ⟨gr, 0, none⟩)], .slice ql n n, .slice (some ⟨w1.heap.size, 0, none⟩) 1 1], .own 3 1 (some ⟨w1.heap.size, 0, none⟩) 1 1 (encI [(s : Int)]), .own 3 1 ql n n (encI (List.replicate k (-1) ++ List.replicate (n - k) 0))]) (fun _ i _ => n - (intOf i).toNat)
  case atStart => exact ⟨0, Nat.zero_le _, rfl, S2.out⟩
  case round =>
    clear S2
    obtain ⟨k, hk, rfl, S⟩ := hrel
    have az := (S.blk 0 rfl).lt; have a0 := (S.blk 0 rfl).cell 0; have a1 := (S.blk 0 rfl).cell 1; have a2 := (S.blk 0 rfl).cell 2
    have po := (S.rd 2 rfl (by omega)).ptr
    have fz := own_frozen (S.own 2 rfl) (by omega) k
    by_cases hlt : k < n
    · have HS := Lib.hid (rep_set hlt)
      have c1 := own_cell (S.own 2 rfl) (k := k) (by omega)
      have d1 : (0:Int) ≤ k := by omega
      have d2 : (k:Int) < n := by omega
      have SH := Lib.hid S; clear S
      go_wp2
      go_roundw
      case rel => exact ⟨k + 1, by omega, by go_num, by rw [← HS.out, ← encI_set]; exact SH.out.setRow 2 rfl k (by omega) (.int .i64 (-1))⟩
      case measure => simp [intOf]; omega
    · obtain rfl : k = n := by omega
      rw [Nat.sub_self, List.replicate_zero, List.append_nil] at S
      have fz2 := own_frozen (S.own 2 rfl) (by omega) s
      have c2 := own_cell (S.own 2 rfl) (k := s) (by omega)
      have d1 : (0:Int) ≤ s := by omega
      have d2 : (s:Int) < k := by omega
      have SH := Lib.hid S; clear S
      clear fz
      go_wp2
      go_ret
      exact ⟨_, ql, _, rfl, by unfold bf0; rw [← encI_set]; exact SH.out.setRow 2 rfl s (by omega) (.int .i64 0)⟩
end Go.Proofs.YtkekibnhmfmhmaaGreat
/- The program's levels (chapter 7): fronts, the iterator's making; what it keeps. -/
namespace Go.Proofs.YtkekibnhmfmhmaaGreat
open Go Go.RowKit
set_option maxRecDepth 100000 in
set_option maxHeartbeats 2000000 in
theorem frontsG (po : Option Addr) (no co : Nat) (pt : Option Addr) (nt ct : Nat) (pr : Option Addr) (nr cr : Nat) (pv : Option Addr) (nv cv : Nat) (s : Int) (back : Bool) (w : World) :
    Calls Tryz.prog 95 #[.agg #[.slice po no co, .slice pt nt ct, .slice pr nr cr, .slice pv nv cv], .int .i64 s, .bool back] w fun e w' => ∃ b1 b2 b3, e = .returned (.func (.func 128) #[] #[.pointer (some ⟨b1, 0, none⟩), .pointer (some ⟨b2, 0, none⟩), .pointer (some ⟨b3, 0, none⟩)]) ∧
      Sep w w' [.blk b3 163 #[nextV back (.agg #[.slice po no co, .slice pt nt ct, .slice pr nr cr, .slice pv nv cv])], .blk b2 3 #[.int .i64 s], .blk b1 136 #[.slice po no co, .slice pt nt ct, .slice pr nr cr, .slice pv nv cv]] := by
  have S0 := Lib.hid (((Sep.start w).al #[.slice po no co, .slice pt nt ct, .slice pr nr cr, .slice pv nv cv] 136 w.heap.size rfl).al #[.int .i64 s] 3 (w.heap.size + 1) (by simp))
  cases back with
  | false =>
    have HN : Hid (∀ W, Calls Tryz.prog 127 #[.agg #[.slice po no co, .slice pt nt ct, .slice pr nr cr, .slice pv nv cv], .bool false] W fun e w' => e = .returned (.func (.func 150) #[.agg #[.slice po no co, .slice pt nt ct, .slice pr nr cr, .slice pv nv cv]] #[]) ∧ Ext W w') := fun W => waysNext po no co pt nt ct pr nr cr pv nv cv false W
    go_enter Tryz.func95, Tryz.ntmps95
    go_wp2_with (go_at_call 127; go_must (refine (HN.out _).mono ?_; rintro e w1 ⟨rfl, hb⟩; have S1 := Lib.hid (S0.out.call hb); clear hb))
    go_ret
    exact ⟨_, _, _, rfl, S1.out.al #[.func (.func 150) #[.agg #[.slice po no co, .slice pt nt ct, .slice pr nr cr, .slice pv nv cv]] #[]] 163 w1.heap.size rfl⟩
  | true =>
    have HN : Hid (∀ W, Calls Tryz.prog 127 #[.agg #[.slice po no co, .slice pt nt ct, .slice pr nr cr, .slice pv nv cv], .bool true] W fun e w' => e = .returned (.func (.func 149) #[.agg #[.slice po no co, .slice pt nt ct, .slice pr nr cr, .slice pv nv cv]] #[]) ∧ Ext W w') := fun W => waysNext po no co pt nt ct pr nr cr pv nv cv true W
    go_enter Tryz.func95, Tryz.ntmps95
    go_wp2_with (go_at_call 127; go_must (refine (HN.out _).mono ?_; rintro e w1 ⟨rfl, hb⟩; have S1 := Lib.hid (S0.out.call hb); clear hb))
    go_ret
    exact ⟨_, _, _, rfl, S1.out.al #[.func (.func 149) #[.agg #[.slice po no co, .slice pt nt ct, .slice pr nr cr, .slice pv nv cv]] #[]] 163 w1.heap.size rfl⟩
/-- what a round keeps: what lay below n₀, the iterator's boxes, and each row of cells from B on -/
structure KpF (n₀ B b1 b2 b3 : Nat) (W W' : World) : Prop where
  low : Below n₀ W W'
  x1 : W'.heap[b1]? = W.heap[b1]?
  x2 : W'.heap[b2]? = W.heap[b2]?
  x3 : W'.heap[b3]? = W.heap[b3]?
  up : ∀ (k : Nat) (o : Obj), B ≤ k → W.heap[k]? = some o → o.isCells = true → W'.heap[k]? = some o
theorem KpF.trans {n₀ B b1 b2 b3 : Nat} {X Y Z : World} (h : KpF n₀ B b1 b2 b3 X Y) (k : KpF n₀ B b1 b2 b3 Y Z) : KpF n₀ B b1 b2 b3 X Z :=
  ⟨h.low.trans k.low, k.x1.trans h.x1, k.x2.trans h.x2, k.x3.trans h.x3, fun i o hB h1 h2 => k.up i o hB (h.up i o hB h1 h2) h2⟩
/-- what is yielded -/
structure Yl where
  k : Nat
  F : List Int
  q : Option Addr
  c : Nat
abbrev YlOf (nx : Nat → List Int) (n s : Nat) := { x : Yl // IsFront (lev nx n s) n x.k x.F ∧ 0 < x.F.length }
def ylA {nx : Nat → List Int} {n s : Nat} (B : Nat) (x : YlOf nx n s) (W : World) : Prop := Rd W 1 x.1.q x.1.F.length (encI x.1.F) ∧ B ≤ (adr x.1.q 0).block
def ylE {nx : Nat → List Int} {n s : Nat} (x : YlOf nx n s) : Array Value := #[.int .i64 x.1.k, .slice x.1.q x.1.F.length x.1.c]
def ylS {nx : Nat → List Int} {n s : Nat} (xs : List (YlOf nx n s)) : Prop := xs.map (·.1.k) = List.range xs.length ∧ hasL n (lev nx n s) xs.length = false
/-- which places are seen -/
def seenL (X l : List Int) (n : Nat) : List Value := (List.range n).map fun v => .bool (decide (0 ≤ nth X v) || decide ((v : Int) ∈ l))
theorem seenL_len (X l : List Int) (n : Nat) : (seenL X l n).length = n := by simp [seenL]
theorem seenL_at {X l : List Int} {n v : Nat} (h : v < n) : (seenL X l n)[v]? = some (.bool (decide (0 ≤ nth X v) || decide ((v : Int) ∈ l))) := by
  simp [seenL, h]
theorem seenL_set {X l : List Int} {n v : Nat} (_ : v < n) : (seenL X l n).set v (.bool true) = seenL X (l ++ [(v : Int)]) n := by
  apply List.ext_getElem
  · simp [seenL]
  · intro j h1 h2
    have hj : j < n := by simpa [seenL] using h2
    simp only [seenL, List.getElem_set, List.getElem_map, List.getElem_range]
    by_cases e : v = j
    · subst e; simp
    · rw [if_neg e]
      have : ((j : Int) ∈ l ++ [(v : Int)]) ↔ (j : Int) ∈ l := by
        rw [List.mem_append, List.mem_singleton]
        constructor
        · rintro (h | h)
          · exact h
          · omega
        · exact .inl
      simp only [this]
theorem seenL_next {nx : Nat → List Int} {n s k : Nat} {L : List Int} (hL : IsFront (lev nx n s) n ((k + 1 : Nat) : Int) L) : seenL (cutL (lev nx n s) n k) L n = seenL (cutL (lev nx n s) n (k + 1 : Nat)) [] n := by
  unfold seenL
  apply List.map_congr_left
  intro v hv
  rw [List.mem_range] at hv
  rw [cutL_nth hv, cutL_nth hv]
  congr 1
  rw [Bool.eq_iff_iff]
  simp only [Bool.or_eq_true, decide_eq_true_eq, cut_ge, List.not_mem_nil, or_false]
  rw [hL.2]
  simp
  omega
theorem seenL_0 {nx : Nat → List Int} {n s : Nat} (hs : s < n) : (List.replicate n (Value.bool false)).set s (.bool true) = seenL (cutL (lev nx n s) n (0 : Nat)) [] n := by
  apply List.ext_getElem
  · simp [seenL]
  · intro j h1 h2
    have hj : j < n := by simpa [seenL] using h2
    simp only [seenL, List.getElem_set, List.getElem_map, List.getElem_range, List.getElem_replicate]
    rw [cutL_nth hj]
    have h0 := (lev_ok nx n s hs).zero j hj
    by_cases e : s = j
    · rw [if_pos e]
      have : 0 ≤ cut (lev nx n s) ((0 : Nat) : Int) j := cut_ge.2 (by have := h0.2 e.symm; omega)
      simpa using this
    · rw [if_neg e]
      have : ¬ 0 ≤ cut (lev nx n s) ((0 : Nat) : Int) j := fun h => by
        have h1 := cut_ge.1 h
        exact e (h0.1 (by omega)).symm
      simpa using this
end Go.Proofs.YtkekibnhmfmhmaaGreat
