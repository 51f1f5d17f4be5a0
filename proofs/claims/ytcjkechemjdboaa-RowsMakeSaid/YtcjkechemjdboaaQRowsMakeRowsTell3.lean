/- Texts of this claim, one behind the other: G2, G9, G11, GT, Big2, G10, Mk4, Ex4, Told4, R10, PlainR2, Mk4r, R4, LRMake, Open, Post, Row4r, Half4r, Chk4r, Out4r, Edg4. -/
import Derived.ProofKit
import Derived.Deep.Slices
import Derived.Deep.Fields
import Derived.ChangeSame
import Derived.Lib.SmallJoins
import Derived.Below
import Derived.Carry
import Derived.OpenShut
import Derived.Test.YtcjkechemjdboaaProg
import Derived.Test.YtcjkechemjdboaaQRowsMakeRowsTell2
namespace Go.Proofs.Ytcjkechemjdboaa
open Go Go.RowKit
set_option maxRecDepth 100000 in
set_option maxHeartbeats 1000000 in
theorem CheckG (N : Int) (pe : Option Addr) (ne ce : Nat) (pw : Option Addr) (nw cw : Nat) (E : List (Int × Int)) (hs : List Hd) (W : List (List ByteArray)) (w : World) (hE : Rd w 2 pe ne (encE E)) (hW : RdW w pw nw hs W) (hz : SzW W) :
    Calls Try.prog 80 #[.agg #[.int .i64 N, .slice pe ne ce, .slice pw nw cw]] w fun e w' => e = .returned (.bool (checkB N E W)) ∧ Ext w w' := by
  have p1 := hE.ptr
  have p2 := hW.row.ptr
  have n1 := hE.small
  have n2 := hW.row.small
  have l1 := hE.nE
  have l2 := hW.nW
  have HE := Lib.hid hE; clear hE
  have HW := Lib.hid hW; clear hW
  have HZ := Lib.hid hz; clear hz
  by_cases hpre : 1 ≤ N ∧ N ≤ 200 ∧ ne ≤ 2000 ∧ (nw : Int) = N
  · obtain ⟨c1, c2, c3, rfl⟩ := hpre
    have YES : ∀ (h5 : E.all (edgeOk nw) = true) (h6 : W.all rowOk = true), checkB nw E W = true := checkB_yes c1 c2 (by omega) (by omega)
    have L1 := Lib.hid l1; clear l1
    have L2 := Lib.hid l2; clear l2
    have HY := Lib.hid YES; clear YES
    have t1 : ((nw : Int) != (nw : Int)) = false := by simp
    go_enter Try.func80, Try.ntmps80
    go_wp2
    go_loopw [4, 32] (fun _ i wr => ∃ k : Nat, k ≤ ne ∧ i = .int .i64 k ∧ (E.take k).all (edgeOk nw) = true ∧ Ext w wr ∧ GBox wr w.heap.size (nw : Int) pe ne ce pw nw cw) (fun _ i _ => ne - (intOf i).toNat)
    case atStart => exact ⟨0, Nat.zero_le _, rfl, rfl, (Below.refl _ _).alloc (Nat.le_refl _) _, GBox.new _ _⟩
    case round =>
      obtain ⟨k, hk, rfl, ha, hb, gb1⟩ := hrel
      have HA := Lib.hid ha; clear ha
      have HB := Lib.hid hb; clear hb
      have G1 := Lib.hid gb1
      obtain ⟨b0, b1, b2⟩ := gb1
      have z0 : w.heap.size < wr.heap.size := World.block_lt_of_cell? wr _ b0
      by_cases hlt : k < ne
      · have g1 := HB.out.cell (HE.out.cE hlt)
        have g2 := HB.out.cell (HE.out.cE2 hlt)
        by_cases hok : 0 ≤ (nth E k).1 ∧ (nth E k).1 < nw ∧ 0 ≤ (nth E k).2 ∧ (nth E k).2 < nw
        · have HO : Hid (edgeOk nw (nth E k) = true) := by unfold Hid edgeOk; exact decide_eq_true hok
          obtain ⟨o1, o2, o3, o4⟩ := hok
          go_wp2_with (first | (go_at_call 106; have _t := F1; refine (isPlaceG _ _ _ _ _ _ _ _ _).mono ?_; rintro e w3 ⟨rfl, hb3⟩; have F2 := Lib.hid (Ext.trans F1.out hb3); clear hb3) | (go_at_call 106; refine (isPlaceG _ _ _ _ _ _ _ _ _).mono ?_; rintro e w2 ⟨rfl, hb2⟩; have F1 := Lib.hid (Ext.trans (Ext.alloc (Below.refl wr.heap.size wr) _) hb2); have b0' := Ext.cell F1.out b0; have b1' := Ext.cell F1.out b1; have b2' := Ext.cell F1.out b2; have x0 := Ext.cell hb2 (cellnew0 _ _ _ _); have x1 := Ext.cell hb2 (cellnew1 _ _ _ _ _); clear hb2))
          go_roundw
          case rel => exact ⟨k + 1, by omega, by go_num, all_step _ _ _ (by rw [← L1.out]; exact hlt) HA.out HO.out, Ext.trans HB.out F2.out, G1.out.ext F2.out⟩
          case measure => simp [intOf]; omega
        · have HO : Hid (edgeOk nw (nth E k) = false) := by unfold Hid edgeOk; exact decide_eq_false hok
          have HF := Lib.hid (checkB_E (W := W) (by rw [← L1.out]; exact hlt) HO.out)
          clear HO
          by_cases o1 : 0 ≤ (nth E k).1
          · by_cases o2 : (nth E k).1 < nw
            · by_cases o3 : 0 ≤ (nth E k).2
              · have o4 : (nw : Int) ≤ (nth E k).2 := Int.not_lt.1 fun h => hok ⟨o1, o2, o3, h⟩
                have o5 : decide ((nth E k).2 < (nw : Int)) = false := by simp; omega
                clear hok
                go_wp2_with (first | (go_at_call 106; have _t := F1; refine (isPlaceG _ _ _ _ _ _ _ _ _).mono ?_; rintro e w3 ⟨rfl, hb3⟩; have F2 := Lib.hid (Ext.trans F1.out hb3); clear hb3) | (go_at_call 106; refine (isPlaceG _ _ _ _ _ _ _ _ _).mono ?_; rintro e w2 ⟨rfl, hb2⟩; have F1 := Lib.hid (Ext.trans (Ext.alloc (Below.refl wr.heap.size wr) _) hb2); have b0' := Ext.cell F1.out b0; have b1' := Ext.cell F1.out b1; have b2' := Ext.cell F1.out b2; have x0 := Ext.cell hb2 (cellnew0 _ _ _ _); have x1 := Ext.cell hb2 (cellnew1 _ _ _ _ _); clear hb2))
                go_ret
                exact ⟨ret_bool HF.out.symm, Ext.trans HB.out F2.out⟩
              · have o5 : decide (0 ≤ (nth E k).2) = false := by simp; omega
                clear hok
                go_wp2_with (first | (go_at_call 106; have _t := F1; refine (isPlaceG _ _ _ _ _ _ _ _ _).mono ?_; rintro e w3 ⟨rfl, hb3⟩; have F2 := Lib.hid (Ext.trans F1.out hb3); clear hb3) | (go_at_call 106; refine (isPlaceG _ _ _ _ _ _ _ _ _).mono ?_; rintro e w2 ⟨rfl, hb2⟩; have F1 := Lib.hid (Ext.trans (Ext.alloc (Below.refl wr.heap.size wr) _) hb2); have b0' := Ext.cell F1.out b0; have b1' := Ext.cell F1.out b1; have b2' := Ext.cell F1.out b2; have x0 := Ext.cell hb2 (cellnew0 _ _ _ _); have x1 := Ext.cell hb2 (cellnew1 _ _ _ _ _); clear hb2))
                go_ret
                exact ⟨ret_bool HF.out.symm, Ext.trans HB.out F2.out⟩
            · have o5 : decide ((nth E k).1 < (nw : Int)) = false := by simp; omega
              clear hok
              go_wp2_with (first | (go_at_call 106; have _t := F1; refine (isPlaceG _ _ _ _ _ _ _ _ _).mono ?_; rintro e w3 ⟨rfl, hb3⟩; have F2 := Lib.hid (Ext.trans F1.out hb3); clear hb3) | (go_at_call 106; refine (isPlaceG _ _ _ _ _ _ _ _ _).mono ?_; rintro e w2 ⟨rfl, hb2⟩; have F1 := Lib.hid (Ext.trans (Ext.alloc (Below.refl wr.heap.size wr) _) hb2); have b0' := Ext.cell F1.out b0; have b1' := Ext.cell F1.out b1; have b2' := Ext.cell F1.out b2; have x0 := Ext.cell hb2 (cellnew0 _ _ _ _); have x1 := Ext.cell hb2 (cellnew1 _ _ _ _ _); clear hb2))
              go_ret
              exact ⟨ret_bool HF.out.symm, Ext.trans HB.out F1.out⟩
          · have o5 : decide (0 ≤ (nth E k).1) = false := by simp; omega
            clear hok
            go_wp2_with (first | (go_at_call 106; have _t := F1; refine (isPlaceG _ _ _ _ _ _ _ _ _).mono ?_; rintro e w3 ⟨rfl, hb3⟩; have F2 := Lib.hid (Ext.trans F1.out hb3); clear hb3) | (go_at_call 106; refine (isPlaceG _ _ _ _ _ _ _ _ _).mono ?_; rintro e w2 ⟨rfl, hb2⟩; have F1 := Lib.hid (Ext.trans (Ext.alloc (Below.refl wr.heap.size wr) _) hb2); have b0' := Ext.cell F1.out b0; have b1' := Ext.cell F1.out b1; have b2' := Ext.cell F1.out b2; have x0 := Ext.cell hb2 (cellnew0 _ _ _ _); have x1 := Ext.cell hb2 (cellnew1 _ _ _ _ _); clear hb2))
            go_ret
            exact ⟨ret_bool HF.out.symm, Ext.trans HB.out F1.out⟩
      · have HEE := Lib.hid (all_end _ _ _ (by rw [← L1.out]; exact hlt) HA.out)
        go_wp2
        clear hlt HA hk
        obtain ⟨wo, rfl⟩ : ∃ wo : World, wo = wr := ⟨_, rfl⟩
        go_loop [6, 52] (fun _ i => ∃ k : Nat, k ≤ nw ∧ i = .int .i64 k ∧ (W.take k).all rowOk = true) (fun _ i => nw - (intOf i).toNat)
        case atStart => exact ⟨0, Nat.zero_le _, rfl, rfl⟩
        case round =>
          obtain ⟨k, hk, rfl, ha⟩ := hrel
          have HA := Lib.hid ha; clear ha
          by_cases hlt : k < nw
          · have g1 := HB.out.cell (HW.out.row.cH hlt)
            have q1 := (HW.out.each k hlt).ext HB.out
            have l3 := q1.nS
            have Q1 := Lib.hid q1; clear q1
            have L3 := Lib.hid l3; clear l3
            have hsz := Lib.hid (HZ.out (nth W k) (by rw [nth_eq (by rw [← L2.out]; exact hlt)]; exact List.getElem_mem _))
            by_cases h8 : (nth hs k).n ≤ 8
            · by_cases hw : (nth W k).any (fun s => !wordB s) = true
              · have HF := Lib.hid (checkB_W (N := nw) (E := E) (k := k) (W := W) (by rw [← L2.out]; exact hlt) (by unfold rowOk; rw [show (nth W k).all wordB = false from by rw [← Bool.not_eq_true, List.all_eq_not_any_not, hw]; simp]; rfl))
                go_wp2_with (go_at_call 107; refine (ContainsWord _ _ _ _ _ Q1.out hsz.out).mono ?_; rintro e w' ⟨rfl, rfl⟩)
                go_ret
                exact ⟨ret_bool HF.out.symm, HB.out⟩
              · have hw' : (nth W k).any (fun s => !wordB s) = false := by simpa using hw
                have HW' := Lib.hid hw'
                clear hw
                go_wp2_with (go_at_call 107; refine (ContainsWord _ _ _ _ _ Q1.out hsz.out).mono ?_; rintro e w' ⟨rfl, rfl⟩)
                go_round
                case rel => exact ⟨k + 1, by omega, by go_num, all_step _ _ _ (by rw [← L2.out]; exact hlt) HA.out (by unfold rowOk; rw [List.all_eq_not_any_not, HW'.out, ← L3.out]; simp [h8])⟩
                case measure => simp [intOf]; omega
            · have HF := Lib.hid (checkB_W (N := nw) (E := E) (k := k) (W := W) (by rw [← L2.out]; exact hlt) (by unfold rowOk; rw [← L3.out]; simp [h8]))
              go_wp2
              go_ret
              exact ⟨ret_bool HF.out.symm, HB.out⟩
          · have HR := Lib.hid (all_end _ _ _ (by rw [← L2.out]; exact hlt) HA.out)
            go_wp2
            go_ret
            exact ⟨ret_bool (HY.out HEE.out HR.out).symm, HB.out⟩
  · have HF := Lib.hid (checkB_pre (N := N) (E := E) (W := W) (by rw [← l1, ← l2]; exact hpre))
    clear l1 l2 HE HW HZ p1 p2
    have h1 : ∀ o1 : Obj, Ext w (w.alloc o1) := fun o1 => (Below.refl _ _).alloc (Nat.le_refl _) _
    by_cases c1 : 1 ≤ N
    · by_cases c2 : N ≤ 200
      · by_cases c3 : ne ≤ 2000
        · have c4 : ((nw : Int) != N) = true := by rw [bne_iff_ne]; exact fun h => hpre ⟨c1, c2, c3, h⟩
          clear hpre
          go_enter Try.func80, Try.ntmps80
          go_wp2
          go_ret
          exact ⟨ret_bool HF.out.symm, h1 _⟩
        · clear hpre
          go_enter Try.func80, Try.ntmps80
          go_wp2
          go_ret
          exact ⟨ret_bool HF.out.symm, h1 _⟩
      · clear hpre
        go_enter Try.func80, Try.ntmps80
        go_wp2
        go_ret
        exact ⟨ret_bool HF.out.symm, h1 _⟩
    · clear hpre
      go_enter Try.func80, Try.ntmps80
      go_wp2
      go_ret
      exact ⟨ret_bool HF.out.symm, h1 _⟩
end Go.Proofs.Ytcjkechemjdboaa
/- The program's Normal: a graph in memory of its own. -/
namespace Go.Proofs.Ytcjkechemjdboaa
open Go Go.RowKit Go.Shelf Go.Lib Go.Sort
theorem allLt_zero {p : Nat → Prop} : ∀ i, i < 0 → p i := fun i h => absurd h (Nat.not_lt_zero i)
theorem allLt_succ {n : Nat} {p : Nat → Prop} (h : ∀ i, i < n → p i) (hn : p n) : ∀ i, i < n + 1 → p i := fun i hi => by
  rcases Nat.lt_or_ge i n with h1 | h1
  · exact h i h1
  · obtain rfl : i = n := by omega
    exact hn
/-- a graph in memory of the call's own -/
def GraphO (w : World) (base : Nat) (v : Value) (N : Int) (E : List (Int × Int)) (W : List (List ByteArray)) : Prop :=
  ∃ pe ce pw cw hs, v = .agg #[.int .i64 N, .slice pe E.length ce, .slice pw W.length cw] ∧ w.ownsRow base 71 2 (.slice pe E.length ce) E.length (encE E) ∧ OwnW w base pw W.length cw hs W
set_option maxRecDepth 100000 in
set_option maxHeartbeats 1000000 in
theorem NormalG_no (N : Int) (pe : Option Addr) (ne ce : Nat) (pw : Option Addr) (nw cw : Nat) (E : List (Int × Int)) (hs : List Hd) (W : List (List ByteArray)) (w : World) (hE : Rd w 2 pe ne (encE E)) (hW : RdW w pw nw hs W) (hz : SzW W) (hc : checkB N E W = false) :
    Calls Try.prog 46 #[.agg #[.int .i64 N, .slice pe ne ce, .slice pw nw cw]] w fun e w' => e = .returned (.tuple #[.agg #[.int .i64 0, .slice none 0 0, .slice none 0 0], .int .i64 20]) ∧ Ext w w' := by
  have HE := Lib.hid hE; clear hE
  have HW := Lib.hid hW; clear hW
  have HZ := Lib.hid hz; clear hz
  go_enter Try.func46, Try.ntmps46
  go_wp2_with (go_at_call 80; refine (CheckG _ _ _ _ _ _ _ E hs W _ (HE.out.ext (alloc2 w _ _).2.2) (HW.out.ext (alloc2 w _ _).2.2) HZ.out).mono ?_; rintro e w1 ⟨rfl, hb1⟩; have BR : Blk w1 (w.heap.size + 1) _ _ := (hb1.block _ (by simp)).trans (alloc2 w _ _).2.1; have r0 := BR.cell 0; have r1 := BR.cell 1; have r2 := BR.cell 2; have k0 := BR.frozen 0; have k1 := BR.frozen 1; have k2 := BR.frozen 2; have HB := Lib.hid (Ext.trans (alloc2 w _ _).2.2 hb1); have BR0 := Lib.hid BR; clear BR hb1)
  have B0 := BR0.out
  have B1 := B0.set_ 0 (.int .i64 0)
  have B2 := B1.set_ 1 (.slice none 0 0)
  have c0 := (B2.set_ 2 (.slice none 0 0)).cell 0
  have c1' := (B2.set_ 2 (.slice none 0 0)).cell 1
  have c2 := (B2.set_ 2 (.slice none 0 0)).cell 2
  refine bodyPost_ret (v := .tuple #[.agg #[.int .i64 0, .slice none 0 0, .slice none 0 0], .int .i64 20]) (by simp [results, Try.results46, go_sem, c0, c1', c2, Try.sizeOf25, Try.isAgg25]) rfl ⟨rfl, ?_⟩
  exact ((HB.out.setCell (by simp) _).setCell (by simp) _).setCell (by simp) _
/-- what the operations of the first composite tell -/
def R3 (b : Nat) (wz N : Nat) (pe : Option Addr) (ne ce : Nat) (D : List (Int × Int)) (i : Nat) (v : Value) (W : World) : Prop :=
  match i with
  | 0 => v = .pointer (some ⟨b, 0, none⟩)
  | 1 => v = .int .i64 N
  | 2 => v = .pointer (some ⟨b, 1, none⟩)
  | 3 => v = .slice pe ne ce
  | 4 => v = .agg #[.func (.func 111) #[] #[]]
  | 5 => ∃ q c, v = .slice q D.length c ∧ W.ownsRow wz 71 2 (.slice q D.length c) D.length (encE D)
  | 6 => ∃ q c, v = .agg #[.int .i64 N, .slice q D.length c, .slice none 0 0] ∧ W.ownsRow wz 71 2 (.slice q D.length c) D.length (encE D)
  | 7 => ∃ g, v = .pointer (some ⟨g, 0, none⟩) ∧ wz ≤ g ∧ Blk W g 25 #[.int .i64 0, .slice none 0 0, .slice none 0 0]
  | _ => True
theorem R3_mono {b wz N : Nat} {pe : Option Addr} {ne ce : Nat} {D : List (Int × Int)} : ∀ i v W W', Ext W W' → R3 b wz N pe ne ce D i v W → R3 b wz N pe ne ce D i v W' := by
  intro i v W W' he h
  match i with
  | 0 => exact h
  | 1 => exact h
  | 2 => exact h
  | 3 => exact h
  | 4 => exact h
  | 5 => obtain ⟨q, c, h1, h2⟩ := h; exact ⟨q, c, h1, he.own h2⟩
  | 6 => obtain ⟨q, c, h1, h2⟩ := h; exact ⟨q, c, h1, he.own h2⟩
  | 7 => obtain ⟨g, h1, h2, h3⟩ := h; exact ⟨g, h1, h2, h3.ext he⟩
  | _ + 8 => trivial
/-- what the operations of the loop's append tell -/
def R7 (wz g : Nat) (qh : Option Addr) (j ch : Nat) (pl : Option Addr) (nl cl : Nat) (D : List ByteArray) (i : Nat) (v : Value) (W : World) : Prop :=
  match i with
  | 0 => v = .pointer (some ⟨g, 2, none⟩)
  | 1 => v = .slice qh j ch
  | 2 => v = .slice pl nl cl
  | 3 => v = .agg #[.func (.func 117) #[] #[]]
  | 4 => ∃ q c, v = .slice q D.length c ∧ W.ownsRow wz 9 1 (.slice q D.length c) D.length (encS D)
  | 5 => ∃ q c a, v = .slice a 1 1 ∧ Rd W 1 a 1 [.slice q D.length c] ∧ W.ownsRow wz 9 1 (.slice q D.length c) D.length (encS D)
  | _ => True
theorem R7_mono {wz g : Nat} {qh : Option Addr} {j ch : Nat} {pl : Option Addr} {nl cl : Nat} {D : List ByteArray} : ∀ i v W W', Ext W W' → R7 wz g qh j ch pl nl cl D i v W → R7 wz g qh j ch pl nl cl D i v W' := by
  intro i v W W' he h
  match i with
  | 0 => exact h
  | 1 => exact h
  | 2 => exact h
  | 3 => exact h
  | 4 => obtain ⟨q, c, h1, h2⟩ := h; exact ⟨q, c, h1, he.own h2⟩
  | 5 => obtain ⟨q, c, a, h1, h2, h3⟩ := h; exact ⟨q, c, a, h1, h2.ext he, he.own h3⟩
  | _ + 6 => trivial
set_option maxRecDepth 100000 in
set_option maxHeartbeats 2000000 in
theorem NormalG_yes (N : Int) (pe : Option Addr) (ne ce : Nat) (pw : Option Addr) (nw cw : Nat) (E : List (Int × Int)) (hs : List Hd) (W : List (List ByteArray)) (w : World) (hE : Rd w 2 pe ne (encE E)) (hW : RdW w pw nw hs W) (hz : SzW W) (hc : checkB N E W = true) :
    Calls Try.prog 46 #[.agg #[.int .i64 N, .slice pe ne ce, .slice pw nw cw]] w fun e w' => ∃ v, e = .returned (.tuple #[v, .int .i64 0]) ∧ GraphO w' w.heap.size v N (dedup (sortBy lessE E)) (W.map fun l => dedup (sortBy sLess l)) ∧ Ext w w' := by
  obtain ⟨j0, hj0, hy0, hy1, hy2⟩ := info_parts inf35
  obtain ⟨_, hN, hE2, hWN, _, hW8⟩ := checkB_parts hc
  have hW9 := rowOk_len hW8
  have p1 := hE.ptr
  have p2 := hW.row.ptr
  have l1 := hE.nE
  have l2 := hW.nW
  have n1 : ne ≤ 2000 := by omega
  have n2 : nw ≤ 200 := by omega
  obtain rfl : N = (nw : Int) := by omega
  have HE := Lib.hid hE; clear hE
  have HW := Lib.hid hW; clear hW
  have HZ := Lib.hid hz; clear hz
  have L1 := Lib.hid l1; clear l1
  have L2 := Lib.hid l2; clear l2
  have H9 := Lib.hid hW9; clear hW9
  clear hW8 hE2 hN hWN
  go_enter Try.func46, Try.ntmps46
  go_wp2_with (go_at_call 80; refine (CheckG _ _ _ _ _ _ _ E hs W _ (HE.out.ext (alloc2 w _ _).2.2) (HW.out.ext (alloc2 w _ _).2.2) HZ.out).mono ?_; rintro e w1 ⟨rfl, hb1⟩; have BG : Blk w1 w.heap.size _ _ := (hb1.block _ (by simp; omega)).trans (alloc2 w _ _).1; have BR : Blk w1 (w.heap.size + 1) _ _ := (hb1.block _ (by simp)).trans (alloc2 w _ _).2.1; have g0 := BG.cell 0; have g1 := BG.cell 1; have zb := BR.lt; have HB := Lib.hid (Ext.trans (alloc2 w _ _).2.2 hb1); have BR0 := Lib.hid BR; have BG0 := Lib.hid BG; clear BR BG hb1)
  refine wp_region_head 8 [11, 12, 13, 14, 15, 16, 17, 4] (R3 w.heap.size w1.heap.size nw pe ne ce (dedup (sortBy lessE E))) (by kernel_rfl) (by kernel_rfl) (by kernel_rfl) R3_mono ?_ ?_
  · refine allLt_succ (allLt_succ (allLt_succ (allLt_succ (allLt_succ (allLt_succ (allLt_succ (allLt_succ allLt_zero ?_) ?_) ?_) ?_) ?_) ?_) ?_) ?_ <;> intro ev vs W2 hE2 hin hout hcs hf hg hd o ho <;> obtain rfl := Option.some.inj ho
    · have e1 := hout 1 rfl
      simp [go_sem] at e1
      simp [execOp, go_sem, e1]
      exact ⟨rfl, Below.refl _ _⟩
    · have e1 : _ = Value.pointer _ := (hin 11 0 rfl).trans (hd 0 (by decide))
      have c := (BG0.out.ext hE2).cell 0
      simp [execOp, go_sem, e1, c]
      exact ⟨rfl, Below.refl _ _⟩
    · have e1 := hout 1 rfl
      simp [go_sem] at e1
      simp [execOp, go_sem, e1]
      exact ⟨rfl, Below.refl _ _⟩
    · have e1 : _ = Value.pointer _ := (hin 13 2 rfl).trans (hd 2 (by decide))
      have c := (BG0.out.ext hE2).cell 1
      simp [execOp, go_sem, e1, c]
      exact ⟨rfl, Below.refl _ _⟩
    · have e1 := hf 82
      simp [go_sem] at e1
      simp [execOp, go_sem, e1]
      exact (EdgesG W2).mono fun e w' ⟨h1, h2⟩ => ⟨_, h1, rfl, h2⟩
    · have e1 := hf 81
      have e2 : _ = Value.slice _ _ _ := (hin 14 3 rfl).trans (hd 3 (by decide))
      have e3 : _ = Value.agg _ := (hin 15 4 rfl).trans (hd 4 (by decide))
      simp [go_sem] at e1
      simp [execOp, go_sem, e1, e2, e3]
      exact (OnceE _ _ _ E W2 (HE.out.ext (Ext.trans HB.out hE2)) (by omega)).mono fun e w' ⟨q, c, h1, h2, h3⟩ => ⟨_, h1, ⟨q, c, rfl, own_base h2 hE2.size⟩, h3⟩
    · have e1 : _ = Value.int _ _ := (hin 12 1 rfl).trans (hd 1 (by decide))
      obtain ⟨q, c, e2, e3⟩ := (hd 5 (by decide) : R3 _ _ _ _ _ _ _ 5 (vs 5) W2)
      have e4 := (hin 16 5 rfl).trans e2
      simp [execOp, go_sem, e1, e4]
      exact ⟨⟨q, c, rfl, e3⟩, Below.refl _ _⟩
    · simp [execOp, go_sem]
      exact ⟨⟨_, rfl, hE2.size, Blk.new _ _ _⟩, (Below.refl _ _).alloc (Nat.le_refl _) _⟩
  · intro vs W2 hE2 hR
    have r0 : vs 0 = _ := hR 0 (by decide)
    have r1 : vs 1 = _ := hR 1 (by decide)
    have r2 : vs 2 = _ := hR 2 (by decide)
    have r3 : vs 3 = _ := hR 3 (by decide)
    have r4 : vs 4 = _ := hR 4 (by decide)
    obtain ⟨q5, c5, r5, _⟩ := hR 5 (by decide)
    obtain ⟨q, cq, r6, own⟩ := hR 6 (by decide)
    obtain ⟨g, r7, hg, BO⟩ := hR 7 (by decide)
    simp only [putHd, List.mapIdx_toArray, List.mapIdx_cons, List.mapIdx_nil, Nat.zero_add, Nat.reduceAdd]
    simp [List.idxOf?_cons, List.idxOf?_nil, r0, r1, r2, r3, r4, r5, r6, r7]
    have s2 := hE2.size
    have hbw : w.heap.size + 1 < W2.heap.size := by omega
    have B1 := BO.set_ 0 (.int .i64 nw)
    have B2 := B1.set_ 1 (.slice q (dedup (sortBy lessE E)).length cq)
    have B3 := B2.set_ 2 (.slice none 0 0)
    have BOx := Lib.hid B3
    have OEx := Lib.hid (own_set (own_set (own_set own BO (by decide) 0 (.int .i64 nw)) B1 (by decide) 1 (.slice q (dedup (sortBy lessE E)).length cq)) B2 (by decide) 2 (.slice none 0 0))
    have b0 := BO.cell 0
    have b1 := BO.cell 1
    have b2 := BO.cell 2
    have f0 := BO.frozen 0
    have f1 := BO.frozen 1
    have f2 := BO.frozen 2
    have HGL := Lib.hid BO.lt
    have hgw : w.heap.size + 1 < g := by omega
    have BGx := Lib.hid ((((BG0.out.ext hE2).far (p := ⟨g, 0, none⟩) (by simp; omega) (.int .i64 nw)).far (p := ⟨g, 1, none⟩) (by simp; omega) (.slice q (dedup (sortBy lessE E)).length cq)).far (p := ⟨g, 2, none⟩) (by simp; omega) (.slice none 0 0))
    have BRx := Lib.hid ((((BR0.out.ext hE2).far (p := ⟨g, 0, none⟩) (by simp; omega) (.int .i64 nw)).far (p := ⟨g, 1, none⟩) (by simp; omega) (.slice q (dedup (sortBy lessE E)).length cq)).far (p := ⟨g, 2, none⟩) (by simp; omega) (.slice none 0 0))
    have HX := Lib.hid ((((Ext.trans HB.out hE2).setCell (p := ⟨g, 0, none⟩) (by simp; omega) (.int .i64 nw)).setCell (p := ⟨g, 1, none⟩) (by simp; omega) (.slice q (dedup (sortBy lessE E)).length cq)).setCell (p := ⟨g, 2, none⟩) (by simp; omega) (.slice none 0 0))
    have gx := BGx.out.cell 2
    clear g0 g1 BG0 BR0 HB B1 B2 B3 own BO
    go_wp2
    go_loopw [6, 21] (fun _ i wr => ∃ (j : Nat) (qh : Option Addr) (ch : Nat) (hs' : List Hd), j ≤ nw ∧ i = .int .i64 j ∧ OwnW wr W2.heap.size qh j ch hs' ((W.take j).map fun l => dedup (sortBy sLess l)) ∧ wr.ownsRow w1.heap.size 71 2 (.slice q (dedup (sortBy lessE E)).length cq) (dedup (sortBy lessE E)).length (encE (dedup (sortBy lessE E))) ∧
        Blk wr w.heap.size 25 #[.int .i64 nw, .slice pe ne ce, .slice pw nw cw] ∧ Blk wr (w.heap.size + 1) 25 #[.int .i64 0, .slice none 0 0, .slice none 0 0] ∧ Blk wr g 25 #[.int .i64 nw, .slice q (dedup (sortBy lessE E)).length cq, .slice qh j ch] ∧ Ext w wr ∧ W2.heap.size ≤ wr.heap.size) (fun _ i _ => nw - (intOf i).toNat)
    case atStart => exact ⟨0, none, 0, [], Nat.zero_le _, rfl, OwnW.nil _ _, OEx.out, BGx.out, BRx.out, BOx.out, HX.out, by simp [World.setCell]⟩
    case round =>
      clear gx OEx BGx BRx BOx HX
      obtain ⟨j, qh, ch, hs', hj, rfl, OW, OE, BG, BR, BO, HB, HZZ⟩ := hrel
      have g2 := BG.cell 2
      have o0 := BO.cell 0
      have o1 := BO.cell 1
      have o2 := BO.cell 2
      have r0 := BR.cell 0
      have r1 := BR.cell 1
      have r2 := BR.cell 2
      have q0 := BR.frozen 0
      have q1 := BR.frozen 1
      have q2 := BR.frozen 2
      have OW0 := Lib.hid OW; clear OW
      have OE0 := Lib.hid OE; clear OE
      have BG0 := Lib.hid BG; clear BG
      have BR0 := Lib.hid BR; clear BR
      have BO0 := Lib.hid BO; clear BO
      have HB0 := Lib.hid HB; clear HB
      by_cases hjt : j < nw
      · have gh := HB0.out.cell (HW.out.row.cH hjt)
        have QS := Lib.hid ((HW.out.each j hjt).ext HB0.out)
        have hlen : (nth hs j).n ≤ 8 := by rw [QS.out.nS]; exact H9.out _ (by rw [nth_eq (by rw [← L2.out]; exact hjt)]; exact List.getElem_mem _)
        have HT2 := Lib.hid (map_take_succ (fun l => dedup (sortBy sLess l)) W j (by rw [← L2.out]; exact hjt))
        have m1 : (nth hs j).n ≤ 1000000 := by omega
        have m3 : (j + 1) * 24 ≤ 140737488355328 := by omega
        have m4 : j + 1 ≤ 140737488355328 := by omega
        have M3 := Lib.hid m3; clear m3
        have M4 := Lib.hid m4; clear m4
        go_wp2
        refine wp_region_head 6 [25, 26, 27, 28, 29, 30] (R7 wr.heap.size g qh j ch (nth hs j).p (nth hs j).n (nth hs j).c (dedup (sortBy sLess (nth W j)))) (by kernel_rfl) (by kernel_rfl) (by kernel_rfl) R7_mono ?_ ?_
        · refine allLt_succ (allLt_succ (allLt_succ (allLt_succ (allLt_succ (allLt_succ allLt_zero ?_) ?_) ?_) ?_) ?_) ?_ <;> intro ev vs W3 hE3 hin hout hcs hf hg3 hd o ho <;> obtain rfl := Option.some.inj ho
          · have e1 := hout 4 rfl
            simp [go_sem] at e1
            simp [execOp, go_sem, e1]
            exact ⟨rfl, Below.refl _ _⟩
          · have e1 : _ = Value.pointer _ := (hin 25 0 rfl).trans (hd 0 (by decide))
            have c := (BO0.out.ext hE3).cell 2
            simp [execOp, go_sem, e1, c]
            exact ⟨rfl, Below.refl _ _⟩
          · have e1 := hout 6 rfl
            simp [go_sem] at e1
            simp [execOp, go_sem, e1]
            exact ⟨rfl, Below.refl _ _⟩
          · have e1 := hf 84
            simp [go_sem] at e1
            simp [execOp, go_sem, e1]
            exact (WordsG W3).mono fun e w' ⟨h1, h2⟩ => ⟨_, h1, rfl, h2⟩
          · have e1 := hf 83
            have e2 : _ = Value.slice _ _ _ := (hin 27 2 rfl).trans (hd 2 (by decide))
            have e3 : _ = Value.agg _ := (hin 28 3 rfl).trans (hd 3 (by decide))
            simp [go_sem] at e1
            simp [execOp, go_sem, e1, e2, e3]
            exact (OnceS _ _ _ (nth W j) W3 (QS.out.ext hE3) (by omega)).mono fun e w' ⟨q, c, h1, h2, h3⟩ => ⟨_, h1, ⟨q, c, rfl, own_base h2 hE3.size⟩, h3⟩
          · obtain ⟨q, c, e2, e3⟩ := (hd 4 (by decide) : R7 _ _ _ _ _ _ _ _ _ 4 (vs 4) W3)
            have e4 := (hin 29 4 rfl).trans e2
            simp [execOp, go_sem, e4]
            exact ⟨⟨q, c, _, rfl, Rd.oneH _ _ _ _ _, e3.alloc _⟩, (Below.refl _ _).alloc (Nat.le_refl _) _⟩
        · intro vs W3 hE3 hR3
          have r0 : vs 0 = _ := hR3 0 (by decide)
          have r1 : vs 1 = _ := hR3 1 (by decide)
          have r2 : vs 2 = _ := hR3 2 (by decide)
          have r3 : vs 3 = _ := hR3 3 (by decide)
          obtain ⟨q4, c4, r4, _⟩ := hR3 4 (by decide)
          obtain ⟨p', d', a', r5, RA, OR⟩ := hR3 5 (by decide)
          have OR1 := Lib.hid (own_base OR HZZ)
          have RA1 := Lib.hid RA
          have HX2 := Lib.hid hE3
          have OW2 := Lib.hid (OW0.out.ext hE3)
          have BO2 := Lib.hid (BO0.out.ext hE3)
          have BG2 := Lib.hid (BG0.out.ext hE3)
          have BR2 := Lib.hid (BR0.out.ext hE3)
          have OE2 := Lib.hid (hE3.own OE0.out)
          have HB2 := Lib.hid (Ext.trans HB0.out hE3)
          have hz3 : W2.heap.size ≤ W3.heap.size := Nat.le_trans HZZ hE3.size
          simp only [putHd, List.mapIdx_toArray, List.mapIdx_cons, List.mapIdx_nil, Nat.zero_add, Nat.reduceAdd]
          simp [List.idxOf?_cons, List.idxOf?_nil, r0, r1, r2, r3, r4, r5]
          clear r0 r1 r2 r3 r4 r5 OR RA hE3 hR3
          go_wp2_with (at_builtin; go_must ((refine wpList_append_rd rfl _ _ _ rfl W2.heap.size 35 j0 _ 1 24 Try.underlying23 hj0 hy0 hy1 hy2 rfl (by omega) qh j ch _ rfl OW2.out.row a' 1 1 _ rfl RA1.out (one_slice _ _ _) M3.out M4.out hz3 ?_; intro q3 c3 w3 own3 hg3 hat3 hl3; have BO3 : Blk w3 g _ _ := (hl3.block g HGL.out).trans BO2.out; have BG3 : Blk w3 w.heap.size _ _ := (hl3.block _ (by omega)).trans BG2.out; have BR3 : Blk w3 (w.heap.size + 1) _ _ := (hl3.block _ (by omega)).trans BR2.out; have HB3 := Lib.hid (Below.trans HB2.out (hl3.mono (by omega))); have OE3 := Lib.hid (own_grown OE2.out hg3 (own_own_ne OW2.out.row OE2.out (by decide))); have OW3 := Lib.hid (OwnW.push OW2.out OR1.out own3 hg3); have x2 := BO3.cell 2; have xf := BO3.frozen 2; have BO4 := Lib.hid BO3; have BG4 := Lib.hid BG3; have BR4 := Lib.hid BR3; have HS3 := hl3.size; clear own3 hg3 hat3 hl3 BO3 BG3 BR3)))
          go_roundw
          case rel => exact ⟨j + 1, q3, c3, _, by omega, by go_num, by rw [HT2.out]; exact OW3.out.set_ BO4.out (by decide) (by decide) _ _, own_set OE3.out BO4.out (by decide) _ _, BG4.out.far (by simp; omega) _, BR4.out.far (by simp; omega) _, BO4.out.set_ 2 _, HB3.out.setCell (by simp; omega) _, by simp [World.setCell]; omega⟩
          case measure => simp [intOf]; omega
      · have hjn : j = nw := by omega
        subst hjn
        have HT2 : Hid ((W.take j).map (fun l => dedup (sortBy sLess l)) = W.map (fun l => dedup (sortBy sLess l))) := by unfold Hid; rw [List.take_of_length_le (by rw [← L2.out]; omega)]
        go_wp2
        have B0 := BR0.out
        have B1 := B0.set_ 0 (.int .i64 j)
        have B2 := B1.set_ 1 (.slice q (dedup (sortBy lessE E)).length cq)
        have c0 := (B2.set_ 2 (.slice qh j ch)).cell 0
        have c1' := (B2.set_ 2 (.slice qh j ch)).cell 1
        have c2 := (B2.set_ 2 (.slice qh j ch)).cell 2
        refine bodyPost_ret (v := .tuple #[.agg #[.int .i64 j, .slice q (dedup (sortBy lessE E)).length cq, .slice qh j ch], .int .i64 0]) (by simp [results, Try.results46, go_sem, c0, c1', c2, Try.sizeOf25, Try.isAgg25]) rfl ⟨_, rfl, ?_, ?_⟩
        · have OW := ((OW0.out.set_ B0 (by decide) (by decide) 0 (.int .i64 j)).set_ B1 (by decide) (by decide) 1 (.slice q (dedup (sortBy lessE E)).length cq)).set_ B2 (by decide) (by decide) 2 (.slice qh j ch)
          have OE := own_set (own_set (own_set OE0.out B0 (by decide) 0 (.int .i64 j)) B1 (by decide) 1 (.slice q (dedup (sortBy lessE E)).length cq)) B2 (by decide) 2 (.slice qh j ch)
          rw [HT2.out] at OW
          have hl := OW.len
          exact ⟨q, cq, qh, ch, hs', by rw [← hl], own_base OE (by omega), by rw [← hl]; exact ⟨OW.hn, own_base OW.row (by omega), fun j hj => own_base (OW.each j hj) (by omega)⟩⟩
        · exact ((HB0.out.setCell (by simp) _).setCell (by simp) _).setCell (by simp) _
theorem NormalG0 (N : Int) (pe : Option Addr) (ne ce : Nat) (pw : Option Addr) (nw cw : Nat) (E : List (Int × Int)) (hs : List Hd) (W : List (List ByteArray)) (w : World) (hE : Rd w 2 pe ne (encE E)) (hW : RdW w pw nw hs W) (hz : SzW W) :
    Calls Try.prog 46 #[.agg #[.int .i64 N, .slice pe ne ce, .slice pw nw cw]] w fun e w' => ∃ v, e = .returned (.tuple #[v, .int .i64 (normC N E W)]) ∧ GraphO w' w.heap.size v (if checkB N E W then N else 0) (if checkB N E W then dedup (sortBy lessE E) else []) (if checkB N E W then W.map fun l => dedup (sortBy sLess l) else []) ∧ Ext w w' := by
  unfold normC
  by_cases hc : checkB N E W = true
  · simp only [hc, if_true]
    exact NormalG_yes N pe ne ce pw nw cw E hs W w hE hW hz hc
  · have hc' : checkB N E W = false := by simpa using hc
    simp only [hc']
    refine (NormalG_no N pe ne ce pw nw cw E hs W w hE hW hz hc').mono fun e w' ⟨he, hb⟩ => ⟨_, he, ?_, hb⟩
    exact ⟨none, 0, none, 0, [], rfl, World.ownsRow_nil _ _ _ _, OwnW.nil _ _⟩
end Go.Proofs.Ytcjkechemjdboaa
/- The program's Normal by the plain law; Degrees. -/
namespace Go.Proofs.Ytcjkechemjdboaa
open Go Go.RowKit Go.Shelf Go.Lib Go.Sort
theorem NormalG (N : Int) (pe : Option Addr) (ne ce : Nat) (pw : Option Addr) (nw cw : Nat) (E : List (Int × Int)) (hs : List Hd) (W : List (List ByteArray)) (w : World) (hE : Rd w 2 pe ne (encE E)) (hW : RdW w pw nw hs W) (hz : SzW W) :
    Calls Try.prog 46 #[.agg #[.int .i64 N, .slice pe ne ce, .slice pw nw cw]] w fun e w' => ∃ v, e = .returned (.tuple #[v, .int .i64 (normC N E W)]) ∧ GraphO w' w.heap.size v (normN N E W) (normE N E W) (normW N E W) ∧ Ext w w' := by
  refine (NormalG0 N pe ne ce pw nw cw E hs W w hE hW hz).mono ?_
  rintro e w' ⟨v, h1, h2, h3⟩
  refine ⟨v, h1, ?_, h3⟩
  unfold normN normE normW
  rw [← once_putAll stoE, show (putAll sLess : List ByteArray → _) = fun l => dedup (sortBy sLess l) from funext fun l => (once_putAll stoS l).symm]
  exact h2
theorem own_far {w : World} {base : Nat} {e : TypeId} {size n c : Nat} {q : Option Addr} {xs : List Value} (h : w.ownsRow base e size (.slice q n c) n xs) {b : Nat} (hb : b < base) (i : Nat) (u : Value) : (w.setCell ⟨b, i, none⟩ u).ownsRow base e size (.slice q n c) n xs := by
  refine ⟨h.1, ?_⟩
  rcases h.2 with h2 | ⟨g, cap, cur, h1, hg, hh, r⟩
  · exact .inl h2
  · exact .inr ⟨g, cap, cur, h1, hg, (Below.heap_setCell w ⟨b, i, none⟩ u g (by show g ≠ b; omega)).trans hh, r⟩
theorem GraphO.set {w : World} {base : Nat} {v : Value} {N : Int} {E : List (Int × Int)} {W : List (List ByteArray)} (h : GraphO w base v N E W) {b : Nat} (hb : b < base) (i : Nat) (u : Value) : GraphO (w.setCell ⟨b, i, none⟩ u) base v N E W := by
  obtain ⟨pe, ce, pw, cw, hs, h1, h2, h3⟩ := h
  exact ⟨pe, ce, pw, cw, hs, h1, own_far h2 hb i u, h3.hn, own_far h3.row hb i u, fun j hj => own_far (h3.each j hj) hb i u⟩
theorem GraphO.mono {w : World} {base b : Nat} {v : Value} {N : Int} {E : List (Int × Int)} {W : List (List ByteArray)} (h : GraphO w base v N E W) (hb : b ≤ base) : GraphO w b v N E W := by
  obtain ⟨pe, ce, pw, cw, hs, h1, h2, h3⟩ := h
  exact ⟨pe, ce, pw, cw, hs, h1, own_base h2 hb, h3.hn, own_base h3.row hb, fun j hj => own_base (h3.each j hj) hb⟩
/-- the counts of an edge list's places -/
def outN (E : List (Int × Int)) (v : Int) : Nat := E.countP fun x => x.1 == v
def inN (E : List (Int × Int)) (v : Int) : Nat := E.countP fun x => x.2 == v
def placeB (N : Int) (E : List (Int × Int)) (W : List (List ByteArray)) (v : Int) : Bool := checkB N E W && decide (0 ≤ v ∧ v < N)
def degO (N : Int) (E : List (Int × Int)) (W : List (List ByteArray)) (v : Int) : Int := if placeB N E W v then outN (putAll lessE E) v else 0
def degI (N : Int) (E : List (Int × Int)) (W : List (List ByteArray)) (v : Int) : Int := if placeB N E W v then inN (putAll lessE E) v else 0
theorem outN_step {E : List (Int × Int)} {v : Int} {k : Nat} (hk : k < E.length) : outN (E.take (k + 1)) v = outN (E.take k) v + if (nth E k).1 == v then 1 else 0 := by
  unfold outN; rw [take_succ_nth E k hk, List.countP_append, List.countP_singleton]
theorem inN_step {E : List (Int × Int)} {v : Int} {k : Nat} (hk : k < E.length) : inN (E.take (k + 1)) v = inN (E.take k) v + if (nth E k).2 == v then 1 else 0 := by
  unfold inN; rw [take_succ_nth E k hk, List.countP_append, List.countP_singleton]
theorem outN_le (E : List (Int × Int)) (v : Int) : outN E v ≤ E.length := List.countP_le_length
theorem inN_le (E : List (Int × Int)) (v : Int) : inN E v ≤ E.length := List.countP_le_length
end Go.Proofs.Ytcjkechemjdboaa
/- The program's Turned. -/
namespace Go.Proofs.Ytcjkechemjdboaa
open Go Go.RowKit Go.Shelf Go.Lib Go.Sort
/-- the first k turned, the others as they were -/
def turnK (E : List (Int × Int)) (k : Nat) : List (Int × Int) := (E.take k).map swapE ++ E.drop k
theorem turnK_len (E : List (Int × Int)) (k : Nat) : (turnK E k).length = E.length := by simp [turnK]; omega
theorem turnK_nth (E : List (Int × Int)) (k : Nat) (h : k < E.length) : nth (turnK E k) k = nth E k := by
  have hl : k < (turnK E k).length := by rw [turnK_len]; exact h
  unfold nth turnK
  rw [List.getD_eq_getElem?_getD, List.getD_eq_getElem?_getD, List.getElem?_append_right (by simp; omega)]
  simp [Nat.min_eq_left (Nat.le_of_lt h)]
theorem turnK_step (E : List (Int × Int)) (k : Nat) (h : k < E.length) : ((encE (turnK E k)).set (k * 2) (.int .i64 (nth E k).2)).set (k * 2 + 1) (.int .i64 (nth E k).1) = encE (turnK E (k + 1)) := by
  have h1 : encE (turnK E k) = encE ((E.take k).map swapE) ++ ([.int .i64 (nth E k).1, .int .i64 (nth E k).2] ++ encE (E.drop (k + 1))) := by
    unfold turnK
    rw [encE_append, drop_nth E k h]
    rfl
  have h2 : encE (turnK E (k + 1)) = encE ((E.take k).map swapE) ++ ([.int .i64 (nth E k).2, .int .i64 (nth E k).1] ++ encE (E.drop (k + 1))) := by
    unfold turnK
    rw [map_take_succ swapE E k h, encE_append, encE_append, List.append_assoc]
    rfl
  have hl : (encE ((E.take k).map swapE)).length = k * 2 := by rw [encE_len, List.length_map, List.length_take]; omega
  rw [h1, h2, List.set_append_right _ _ (by omega), List.set_append_right _ _ (by omega), hl]
  simp [show k * 2 + 1 - k * 2 = 1 from by omega]
set_option maxRecDepth 100000 in
set_option maxHeartbeats 2000000 in
theorem TurnedG (N : Int) (pe : Option Addr) (ne ce : Nat) (pw : Option Addr) (nw cw : Nat) (E : List (Int × Int)) (hs : List Hd) (W : List (List ByteArray)) (w : World) (hE : Rd w 2 pe ne (encE E)) (hW : RdW w pw nw hs W) (hz : SzW W) (hn : ne ≤ 100000) :
    Calls Try.prog 47 #[.agg #[.int .i64 N, .slice pe ne ce, .slice pw nw cw]] w fun e w' => ∃ v, e = .returned (.tuple #[v, .int .i64 (normC N (E.map swapE) W)]) ∧ GraphO w' w.heap.size v (normN N (E.map swapE) W) (normE N (E.map swapE) W) (normW N (E.map swapE) W) ∧ Ext w w' := by
  have l1 := hE.nE
  have HClone := Lib.hid (fun W1 (h : Ext w W1) => CloneE pe ne ce E W1 (hE.ext h) hn)
  have HW := Lib.hid hW; clear hW
  have HZ := Lib.hid hz; clear hz
  have L1 := Lib.hid l1; clear l1
  clear hE
  have S0 := Lib.hid (((Sep.start w).al #[.int .i64 N, .slice pe ne ce, .slice pw nw cw] 25 w.heap.size rfl).al #[.int .i64 0, .slice none 0 0, .slice none 0 0] 25 (w.heap.size + 1) (by simp))
  go_enter Try.func47, Try.ntmps47
  go_wp2_with (go_at_call 85; go_must (refine (HClone.out _ S0.out.ext).mono ?_; rintro e w1 ⟨q, c, rfl, ho, hb⟩; have S1 := S0.out.fresh hb ho (Nat.le_refl _); have c0 := (S1.blk 2 rfl).cell 0; have c1 := (S1.blk 2 rfl).cell 1; have c2 := (S1.blk 2 rfl).cell 2; have f1 := (S1.blk 2 rfl).frozen 1; have S2 := Lib.hid S1; clear S1 ho hb))
  go_loopw [4, 5, 13] (fun _ _ i wr => ∃ k : Nat, k ≤ ne ∧ i = .int .i64 k ∧ Sep w wr [.own 71 2 q ne c (encE (turnK E k)), .blk (w.heap.size + 1) 25 #[.int .i64 0, .slice none 0 0, .slice none 0 0], .blk w.heap.size 25 #[.int .i64 N, .slice q ne c, .slice pw nw cw]]) (fun _ _ i _ => ne - (intOf i).toNat)
  case atStart => exact ⟨0, Nat.zero_le _, rfl, by have := S2.out.set 2 rfl 1 (.slice q ne c); rwa [show turnK E 0 = E from by simp [turnK]]⟩
  case round =>
    clear S2 c0 c1 c2 f1
    obtain ⟨k, hk, rfl, S⟩ := hrel
    have cz := (S.blk 2 rfl).lt; have c0 := (S.blk 2 rfl).cell 0; have c1 := (S.blk 2 rfl).cell 1; have c2 := (S.blk 2 rfl).cell 2
    by_cases hlt : k < ne
    · have p1 := (S.rd 0 rfl (by omega)).ptr
      have e1 := (S.rd 0 rfl (by omega)).cE hlt
      have e2 := (S.rd 0 rfl (by omega)).cE2 hlt
      rw [turnK_nth E k (by rw [← L1.out]; exact hlt)] at e1 e2
      have k1 := own_frozen (S.own 0 rfl) (by omega) (k * 2)
      have k2 := own_frozen (S.own 0 rfl) (by omega) (k * 2 + 1)
      have z1 := (S.blt 0 rfl (by omega)).2
      have z2 : (adr q (k * 2)).block < wr.heap.size := z1
      have k3 : wr.frozen? ⟨(adr q (k * 2)).block, (adr q (k * 2)).off + 1, none⟩ = false := k2
      have e3 : wr.cell? ⟨(adr q (k * 2)).block, (adr q (k * 2)).off + 1, none⟩ = some (.int .i64 (nth E k).2) := e2
      have ya : _ ≠ _ := adr_other q (show (k * 2) ≠ (k * 2) + 1 by omega)
      have yb : _ ≠ _ := adr_other q (show (k * 2) + 1 ≠ (k * 2) by omega)
      have yc : adr q ((k * 2)) ≠ ⟨(adr q ((k * 2))).block, (adr q ((k * 2))).off + 1, none⟩ := ya
      have d1 : (0:Int) ≤ k := by omega
      have d2 : (k:Int) < ne := by omega
      have hst := Lib.hid (turnK_step E k (by rw [← L1.out]; exact hlt))
      have SH := Lib.hid S; clear S
      go_wp2
      go_roundw
      case rel => exact ⟨k + 1, by omega, by go_num, by rw [← hst.out]; exact (SH.out.junk _).setRow2 0 rfl (k * 2) (by omega) _ _⟩
      case measure => simp [intOf]; omega
    · obtain rfl : k = ne := by omega
      have HT : Hid (turnK E k = E.map swapE) := by unfold Hid turnK; rw [List.take_of_length_le (by rw [← L1.out]; omega), List.drop_of_length_le (by rw [← L1.out]; omega), List.append_nil]
      have RQ := Lib.hid (S.rd 0 rfl (by omega))
      rw [HT.out] at RQ
      have SH := Lib.hid S; clear S
      go_wp2_with (go_at_call 46; go_must (refine (NormalG N q k c pw nw cw (E.map swapE) hs W _ RQ.out (HW.out.ext SH.out.ext) HZ.out).mono ?_; rintro e w2 ⟨v, rfl, hG, hb2⟩; have S2 := SH.out.call hb2; have z2 : w.heap.size + 1 < wr.heap.size := (SH.out.blk 1 rfl).lt; have HG := Lib.hid hG; obtain ⟨pe', ce', pw', cw', hs', rfl, _, _⟩ := hG; have x0 := (S2.blk 1 rfl).cell 0; have x1 := (S2.blk 1 rfl).cell 1; have x2 := (S2.blk 1 rfl).cell 2; have f0 := (S2.blk 1 rfl).frozen 0; have f1 := (S2.blk 1 rfl).frozen 1; have f2 := (S2.blk 1 rfl).frozen 2; have S3 := Lib.hid S2; clear S2))
      have S4 := ((S3.out.set 1 rfl 0 (.int .i64 (normN N (E.map swapE) W))).set 1 rfl 1 (.slice pe' (normE N (E.map swapE) W).length ce')).set 1 rfl 2 (.slice pw' (normW N (E.map swapE) W).length cw')
      have b0 := (S4.blk 1 rfl).cell 0
      have b1 := (S4.blk 1 rfl).cell 1
      have b2 := (S4.blk 1 rfl).cell 2
      refine bodyPost_ret (v := .tuple #[.agg #[.int .i64 (normN N (E.map swapE) W), .slice pe' (normE N (E.map swapE) W).length ce', .slice pw' (normW N (E.map swapE) W).length cw'], .int .i64 (normC N (E.map swapE) W)]) (by simp [results, Try.results47, go_sem, b0, b1, b2, Try.sizeOf25, Try.isAgg25]) rfl ⟨_, rfl, ?_, S4.ext⟩
      have hg1 := HG.out.set z2 0 (.int .i64 (normN N (E.map swapE) W))
      exact ((hg1.set z2 1 (.slice pe' (normE N (E.map swapE) W).length ce')).set z2 2 (.slice pw' (normW N (E.map swapE) W).length cw')).mono (by omega)
end Go.Proofs.Ytcjkechemjdboaa
/- Plain facts of chapter 2 that many laws use: what is not looked at bounds what is; rows that are read. -/
namespace Go.Proofs.Ytcjkechemjdboaa
open Go Go.RowKit
theorem szW_of_big {E : List (Int × Int)} {W : List (List ByteArray)} (h : bigB E W = false) : SzW W := by
  unfold bigB at h
  simp only [Bool.or_eq_false_iff, Bool.and_eq_false_iff] at h
  obtain ⟨⟨⟨h1, h2⟩, _⟩, _⟩ := h
  have hw : W.length ≤ 250 := by simpa using h2
  have hb : W.any badRow = false := by
    rcases h1 with h1 | h1
    · simp at h1; omega
    · exact h1
  intro l hl s hs
  have h3 := List.any_eq_false.1 hb l hl
  unfold badRow at h3
  simp only [Bool.or_eq_true, not_or, Bool.not_eq_true] at h3
  have h4 := List.any_eq_false.1 h3.2 s hs
  unfold longB at h4
  simp at h4
  omega
theorem lens_of_big {E : List (Int × Int)} {W : List (List ByteArray)} (h : bigB E W = false) : E.length ≤ 2100 ∧ W.length ≤ 250 ∧ ∀ l ∈ W, l.length ≤ 20 := by
  unfold bigB at h
  simp only [Bool.or_eq_false_iff, Bool.and_eq_false_iff] at h
  obtain ⟨⟨⟨h1, h2⟩, _⟩, h4⟩ := h
  have hw : W.length ≤ 250 := by simpa using h2
  refine ⟨by simpa using h4, hw, fun l hl => ?_⟩
  have hb : W.any badRow = false := by
    rcases h1 with h1 | h1
    · simp at h1; omega
    · exact h1
  have h3 := List.any_eq_false.1 hb l hl
  unfold badRow at h3
  simp at h3
  omega
theorem norm_lens (N : Int) (E : List (Int × Int)) (W : List (List ByteArray)) (h1 : E.length ≤ 2100) (h2 : W.length ≤ 250) (h3 : ∀ l ∈ W, l.length ≤ 20) : (normE N E W).length ≤ 2100 ∧ (normW N E W).length ≤ 250 ∧ ∀ l ∈ normW N E W, l.length ≤ 20 := by
  unfold normE normW
  by_cases hc : checkB N E W = true
  · simp only [hc, if_true]
    refine ⟨Nat.le_trans (putAll_len _ _) h1, by rw [List.length_map]; exact h2, fun l hl => ?_⟩
    obtain ⟨l', hl', rfl⟩ := List.mem_map.1 hl
    exact Nat.le_trans (putAll_len _ _) (h3 l' hl')
  · have : checkB N E W = false := by simpa using hc
    simp only [this, Bool.false_eq_true, if_false]
    exact ⟨by simp, by simp, fun l hl => by cases hl⟩
theorem Blk.rd {W : World} {g : Nat} {t : TypeId} {cs : Array Value} (h : Blk W g t cs) {n size : Nat} {xs : List Value} (hx : cs.toList = xs) (hn : xs.length = n * size) (hs : n ≤ 9223372036854775807) : Rd W size (some ⟨g, 0, none⟩) n xs := by
  subst hx
  refine ⟨hn, .inr ⟨_, _, rfl⟩, hs, fun j hj => ?_⟩
  rw [adr_some, Nat.zero_add, h.cell j]
  rw [List.getD_eq_getElem?_getD, Array.getElem?_toList, Array.getElem?_eq_getElem (by simp at hn; omega)]
  rfl
theorem GraphO.rd {w : World} {base : Nat} {v : Value} {N : Int} {E : List (Int × Int)} {W : List (List ByteArray)} (h : GraphO w base v N E W) (h1 : E.length ≤ 9223372036854775807) (h2 : W.length ≤ 9223372036854775807) (h3 : ∀ l ∈ W, l.length ≤ 9223372036854775807) : GraphR w v N E W := by
  obtain ⟨pe, ce, pw, cw, hs, rfl, h5, h6⟩ := h
  exact ⟨pe, _, ce, pw, _, cw, hs, rfl, Rd.of_own h5 h1, own_cap h5, h6.rd h2 h3, own_cap h6.row⟩
theorem alloc3B (w : World) (c1 c2 c3 : Array Value) (t1 t2 t3 : TypeId) : Blk (((w.alloc (.cells c1 t1)).alloc (.cells c2 t2)).alloc (.cells c3 t3)) w.heap.size t1 c1 ∧ Blk (((w.alloc (.cells c1 t1)).alloc (.cells c2 t2)).alloc (.cells c3 t3)) (w.heap.size + 1) t2 c2 ∧
    Blk (((w.alloc (.cells c1 t1)).alloc (.cells c2 t2)).alloc (.cells c3 t3)) (w.heap.size + 1 + 1) t3 c3 ∧ Ext w (((w.alloc (.cells c1 t1)).alloc (.cells c2 t2)).alloc (.cells c3 t3)) := alloc3 _ _ _ _
theorem alloc2B (w : World) (c1 c2 : Array Value) (t1 t2 : TypeId) : Blk ((w.alloc (.cells c1 t1)).alloc (.cells c2 t2)) w.heap.size t1 c1 ∧ Blk ((w.alloc (.cells c1 t1)).alloc (.cells c2 t2)) (w.heap.size + 1) t2 c2 ∧ Ext w ((w.alloc (.cells c1 t1)).alloc (.cells c2 t2)) := alloc2 _ _ _
end Go.Proofs.Ytcjkechemjdboaa
/- The program's rise and Is. -/
namespace Go.Proofs.Ytcjkechemjdboaa
open Go Go.RowKit Go.Shelf Go.Lib Go.Sort
theorem Ext.growN {w w' : World} (h : Ext w w') (os : Array Obj) : Ext w (grow w' os) :=
  ⟨h.os, h.tape, h.output, by rw [size_grow]; exact Nat.le_trans h.size (Nat.le_add_right _ _), fun k hk => (heap_grow_old w' os (Nat.lt_of_lt_of_le hk h.size)).trans (h.block k hk)⟩
theorem EdgesExt (x y : Int × Int) (W : World) : Calls Try.prog 111 #[.agg #[.int .i64 x.1, .int .i64 x.2], .agg #[.int .i64 y.1, .int .i64 y.2]] W fun e w' => e = .returned (.int .i64 (cmpE x y)) ∧ Ext W w' :=
  (EdgesLit x y W).mono fun e w' ⟨h, q, os, hw⟩ => ⟨h, by subst hw; exact Ext.growN (Ext.drewN (Below.refl _ _) q) os⟩
theorem cmpE_neg (x y : Int × Int) : cmpE x y < 0 ↔ lessE x y = true := by
  have := ltOf_cmpE x y
  unfold ltOf at this
  rw [← this]; simp
theorem cmpS_neg (x y : ByteArray) : cmpS x y < 0 ↔ sLess x y = true := by
  have := ltOf_cmpS x y
  unfold ltOf at this
  rw [← this]; simp
set_option maxRecDepth 100000 in
set_option maxHeartbeats 1000000 in
theorem RiseE (p : Option Addr) (n c : Nat) (l : List (Int × Int)) (w : World) (hl : Rd w 2 p n (encE l)) :
    Calls Try.prog 91 #[.slice p n c, .agg #[.func (.func 111) #[] #[]]] w fun e w' => e = .returned (.bool (riseB lessE l)) ∧ Ext w w' := by
  have p1 := hl.ptr
  have n1 := hl.small
  have l1 := hl.nE
  have HL := Lib.hid hl; clear hl
  have L1 := Lib.hid l1; clear l1
  go_enter Try.func91, Try.ntmps91
  go_wp2
  go_loopw [5] (fun i wr => ∃ k : Nat, 1 ≤ k ∧ (k ≤ n ∨ k = 1) ∧ i = .int .i64 k ∧ (List.range (k - 1)).all (riseAt lessE l) = true ∧ Ext w wr ∧ wr.cell? ⟨w.heap.size, 0, none⟩ = some (.func (.func 111) #[] #[])) (fun i _ => n + 1 - (intOf i).toNat)
  case atStart => exact ⟨1, Nat.le_refl _, .inr rfl, rfl, rfl, (Below.refl _ _).alloc (Nat.le_refl _) _, cellnew0 _ _ _ _⟩
  case round =>
    obtain ⟨k, hk1, hk, rfl, ha, hb, b0⟩ := hrel
    have HA := Lib.hid ha; clear ha
    have HB := Lib.hid hb; clear hb
    by_cases hlt : k < n
    · have g1 := HB.out.cell (HL.out.cE hlt)
      have g2 := HB.out.cell (HL.out.cE2 hlt)
      have g3 := HB.out.cell (HL.out.cE (k := k - 1) (by omega))
      have g4 := HB.out.cell (HL.out.cE2 (k := k - 1) (by omega))
      have e1 : ∀ x : ExtOf wr, x.val.cell? (adr p (k * 2)) = _ := fun x => x.ext.cell g1
      have e2 : ∀ x : ExtOf wr, x.val.cell? (adr p (k * 2 + 1)) = _ := fun x => x.ext.cell g2
      have e3 : ∀ x : ExtOf wr, x.val.cell? (adr p ((k - 1) * 2)) = _ := fun x => x.ext.cell g3
      have e4 : ∀ x : ExtOf wr, x.val.cell? (adr p ((k - 1) * 2 + 1)) = _ := fun x => x.ext.cell g4
      have e5 : ∀ x : ExtOf wr, x.val.cell? ⟨w.heap.size, 0, none⟩ = _ := fun x => x.ext.cell b0
      have d1 : (0:Int) ≤ k := by omega
      have d2 : (k:Int) < n := by omega
      have d3 : (0:Int) ≤ (k:Int) - 1 := by omega
      have d4 : (1:Int) ≤ (k:Int) := by omega
      have d5 : (k:Int) - 1 < n := by omega
      have d6 : ((k:Int) - 1).toNat = k - 1 := by omega
      have hkk : k - 1 + 1 = k := by omega
      have HKK := Lib.hid hkk; clear hkk
      have HC := fun W' => EdgesExt (nth l (k - 1)) (nth l k) W'
      have hcc := cmpE_neg (nth l (k - 1)) (nth l k)
      generalize cmpE (nth l (k - 1)) (nth l k) = cc at HC hcc
      have HC1 := Lib.hid HC; clear HC
      by_cases hless : cc < 0
      · have hle : decide (0 ≤ cc) = false := by simp; omega
        have hls := Lib.hid (hcc.1 hless)
        clear hcc
        go_wp2
        refine wp_region_ext (by kernel_rfl) (by kernel_rfl) ?_
        repeat (go_big_quiet_step ((go_at_call 111; exact Calls.ext_of (HC1.out _))))
        refine wpQuiet_nil ?_
        rintro w1 ⟨⟨_, hb1⟩, rfl⟩
        go_wp2
        go_roundw
        case rel => exact ⟨k + 1, by omega, .inl (by omega), by go_num, by rw [show k + 1 - 1 = k - 1 + 1 from by omega]; exact range_all_succ _ _ HA.out (by unfold riseAt; rw [HKK.out]; exact hls.out), Ext.trans HB.out hb1, hb1.cell b0⟩
        case measure => simp [intOf]; omega
      · have hle : decide (0 ≤ cc) = true := by simp; omega
        have hls : lessE (nth l (k - 1)) (nth l k) = false := by simpa using (fun h => hless (hcc.2 h))
        have HF := Lib.hid (riseB_no (lt := lessE) (l := l) (k := k - 1) (by rw [HKK.out, ← L1.out]; exact hlt) (by rw [HKK.out]; exact hls))
        clear hcc hls
        go_wp2
        refine wp_region_ext (by kernel_rfl) (by kernel_rfl) ?_
        repeat (go_big_quiet_step ((go_at_call 111; exact Calls.ext_of (HC1.out _))))
        refine wpQuiet_nil ?_
        rintro w1 ⟨⟨_, hb1⟩, rfl⟩
        go_wp2
        go_ret
        exact ⟨ret_bool HF.out.symm, Ext.trans HB.out hb1⟩
    · have HEE := Lib.hid (riseB_end (by rw [← L1.out]; exact hlt) HA.out)
      go_wp2
      go_ret
      exact ⟨ret_bool HEE.out.symm, HB.out⟩
set_option maxRecDepth 100000 in
set_option maxHeartbeats 1000000 in
theorem RiseS (p : Option Addr) (n c : Nat) (l : List ByteArray) (w : World) (hl : Rd w 1 p n (encS l)) :
    Calls Try.prog 90 #[.slice p n c, .agg #[.func (.func 117) #[] #[]]] w fun e w' => e = .returned (.bool (riseB sLess l)) ∧ Ext w w' := by
  have p1 := hl.ptr
  have n1 := hl.small
  have l1 := hl.nS
  have HL := Lib.hid hl; clear hl
  have L1 := Lib.hid l1; clear l1
  go_enter Try.func90, Try.ntmps90
  go_wp2
  go_loopw [5] (fun i wr => ∃ k : Nat, 1 ≤ k ∧ (k ≤ n ∨ k = 1) ∧ i = .int .i64 k ∧ (List.range (k - 1)).all (riseAt sLess l) = true ∧ Ext w wr ∧ wr.cell? ⟨w.heap.size, 0, none⟩ = some (.func (.func 117) #[] #[])) (fun i _ => n + 1 - (intOf i).toNat)
  case atStart => exact ⟨1, Nat.le_refl _, .inr rfl, rfl, rfl, (Below.refl _ _).alloc (Nat.le_refl _) _, cellnew0 _ _ _ _⟩
  case round =>
    obtain ⟨k, hk1, hk, rfl, ha, hb, b0⟩ := hrel
    have HA := Lib.hid ha; clear ha
    have HB := Lib.hid hb; clear hb
    by_cases hlt : k < n
    · have g1 := HB.out.cell (HL.out.cS hlt)
      have g3 := HB.out.cell (HL.out.cS (k := k - 1) (by omega))
      have e1 : ∀ x : ExtOf wr, x.val.cell? (adr p k) = _ := fun x => x.ext.cell g1
      have e3 : ∀ x : ExtOf wr, x.val.cell? (adr p (k - 1)) = _ := fun x => x.ext.cell g3
      have e5 : ∀ x : ExtOf wr, x.val.cell? ⟨w.heap.size, 0, none⟩ = _ := fun x => x.ext.cell b0
      have d1 : (0:Int) ≤ k := by omega
      have d2 : (k:Int) < n := by omega
      have d3 : (0:Int) ≤ (k:Int) - 1 := by omega
      have d4 : (1:Int) ≤ (k:Int) := by omega
      have d5 : (k:Int) - 1 < n := by omega
      have d6 : ((k:Int) - 1).toNat = k - 1 := by omega
      have hkk : k - 1 + 1 = k := by omega
      have HKK := Lib.hid hkk; clear hkk
      have HC : ∀ W', Calls Try.prog 117 #[.string (nth l (k - 1)), .string (nth l k)] W' fun e w' => e = .returned (.int .i64 (cmpS (nth l (k - 1)) (nth l k))) ∧ Ext W' w' := fun W' => (CompareS (nth l (k - 1)) (nth l k) W').mono fun e w' ⟨h, hw⟩ => ⟨h, by subst hw; exact Below.refl _ _⟩
      have hcc := cmpS_neg (nth l (k - 1)) (nth l k)
      generalize cmpS (nth l (k - 1)) (nth l k) = cc at HC hcc
      have HC1 := Lib.hid HC; clear HC
      by_cases hless : cc < 0
      · have hle : decide (0 ≤ cc) = false := by simp; omega
        have hls := Lib.hid (hcc.1 hless)
        clear hcc
        go_wp2
        refine wp_region_ext (by kernel_rfl) (by kernel_rfl) ?_
        repeat (go_big_quiet_step ((go_at_call 117; exact Calls.ext_of (HC1.out _))))
        refine wpQuiet_nil ?_
        rintro w1 ⟨⟨_, hb1⟩, rfl⟩
        go_wp2
        go_roundw
        case rel => exact ⟨k + 1, by omega, .inl (by omega), by go_num, by rw [show k + 1 - 1 = k - 1 + 1 from by omega]; exact range_all_succ _ _ HA.out (by unfold riseAt; rw [HKK.out]; exact hls.out), Ext.trans HB.out hb1, hb1.cell b0⟩
        case measure => simp [intOf]; omega
      · have hle : decide (0 ≤ cc) = true := by simp; omega
        have hls : sLess (nth l (k - 1)) (nth l k) = false := by simpa using (fun h => hless (hcc.2 h))
        have HF := Lib.hid (riseB_no (lt := sLess) (l := l) (k := k - 1) (by rw [HKK.out, ← L1.out]; exact hlt) (by rw [HKK.out]; exact hls))
        clear hcc hls
        go_wp2
        refine wp_region_ext (by kernel_rfl) (by kernel_rfl) ?_
        repeat (go_big_quiet_step ((go_at_call 117; exact Calls.ext_of (HC1.out _))))
        refine wpQuiet_nil ?_
        rintro w1 ⟨⟨_, hb1⟩, rfl⟩
        go_wp2
        go_ret
        exact ⟨ret_bool HF.out.symm, Ext.trans HB.out hb1⟩
    · have HEE := Lib.hid (riseB_end (by rw [← L1.out]; exact hlt) HA.out)
      go_wp2
      go_ret
      exact ⟨ret_bool HEE.out.symm, HB.out⟩
theorem IsLit (p : Option Addr) (n c : Nat) (l : List ByteArray) (w : World) (hl : Rd w 1 p n (encS l)) :
    Calls Try.prog 89 #[.slice p n c] w fun e w' => e = .returned (.bool (!riseB sLess l)) ∧ Ext w w' := by
  have HL := Lib.hid hl; clear hl
  go_enter Try.func89, Try.ntmps89
  go_wp2_with (first
    | (go_at_call 84; go_must ((refine (WordsG _).mono ?_; rintro e w1 ⟨rfl, hb1⟩; have B1 := Lib.hid hb1; clear hb1)))
    | (go_at_call 90; have _t := B1; go_must ((refine (RiseS _ _ _ _ _ (HL.out.ext B1.out)).mono ?_; rintro e w2 ⟨rfl, hb2⟩; have B2 := Lib.hid (Ext.trans B1.out hb2); clear hb2))))
  go_ret
  exact ⟨rfl, B2.out⟩
set_option maxHeartbeats 400000 in
/-- the first row that does not rise, or -1 -/
theorem IndexRise (p : Option Addr) (n c : Nat) (hs : List Hd) (W : List (List ByteArray)) (w : World) (hl : RdW w p n hs W) :
    Calls Try.prog 118 #[.slice p n c, .func (.func 89) #[] #[]] w fun e w' => ∃ i : Int, e = .returned (.int .i64 i) ∧ decide (0 ≤ i) = W.any (fun l => !riseB sLess l) ∧ Ext w w' := by
  have p1 := hl.row.ptr
  have n1 := hl.row.small
  have l1 := hl.nW
  have HL := Lib.hid hl; clear hl
  have L1 := Lib.hid l1; clear l1
  go_enter Try.func118, Try.ntmps118
  go_wp2
  go_loopw [5, 8] (fun _ i wr => ∃ k : Nat, k ≤ n ∧ i = .int .i64 k ∧ (W.take k).any (fun l => !riseB sLess l) = false ∧ Ext w wr) (fun _ i _ => n - (intOf i).toNat)
  case atStart => exact ⟨0, Nat.zero_le _, rfl, rfl, Below.refl _ _⟩
  case round =>
    obtain ⟨k, hk, rfl, ha, hb⟩ := hrel
    have HA := Lib.hid ha; clear ha
    have HB := Lib.hid hb; clear hb
    by_cases hlt : k < n
    · have g1 := HB.out.cell (HL.out.row.cH hlt)
      have Q1 := Lib.hid ((HL.out.each k hlt).ext HB.out)
      by_cases hw : (!riseB sLess (nth W k)) = true
      · have HF := Lib.hid (any_true_at (fun l => !riseB sLess l) W k (by rw [← L1.out]; exact hlt) hw)
        go_wp2_with (go_at_call 89; refine (IsLit _ _ _ _ _ Q1.out).mono ?_; rintro e w' ⟨rfl, hb1⟩; have H1 := Lib.hid (Ext.trans HB.out hb1); clear hb1)
        go_ret
        exact ⟨_, rfl, by rw [HF.out]; simp, H1.out⟩
      · have hw' : (!riseB sLess (nth W k)) = false := by simpa using hw
        have HW' := Lib.hid hw'
        clear hw
        go_wp2_with (go_at_call 89; refine (IsLit _ _ _ _ _ Q1.out).mono ?_; rintro e w' ⟨rfl, hb1⟩; have H1 := Lib.hid (Ext.trans HB.out hb1); clear hb1)
        go_roundw
        case rel => exact ⟨k + 1, by omega, by go_num, any_step _ _ _ (by rw [← L1.out]; exact hlt) HA.out HW'.out, H1.out⟩
        case measure => simp [intOf]; omega
    · have HF := Lib.hid (any_end _ _ _ (by rw [← L1.out]; exact hlt) HA.out)
      go_wp2
      go_ret
      exact ⟨_, rfl, by rw [HF.out]; rfl, HB.out⟩
theorem ContainsRise (p : Option Addr) (n c : Nat) (hs : List Hd) (W : List (List ByteArray)) (w : World) (hl : RdW w p n hs W) :
    Calls Try.prog 92 #[.slice p n c, .func (.func 89) #[] #[]] w fun e w' => e = .returned (.bool (W.any (fun l => !riseB sLess l))) ∧ Ext w w' := by
  have HC := Lib.hid (IndexRise p n c hs W w hl)
  clear hl
  go_enter Try.func92, Try.ntmps92
  go_wp2_with (go_at_call 118; refine HC.out.mono ?_; rintro e w' ⟨i, rfl, hi, hb⟩; have HI := Lib.hid hi; have HB := Lib.hid hb; clear hi hb)
  go_ret
  exact ⟨ret_bool HI.out, HB.out⟩
set_option maxRecDepth 100000 in
set_option maxHeartbeats 2000000 in
theorem IsG (N : Int) (pe : Option Addr) (ne ce : Nat) (pw : Option Addr) (nw cw : Nat) (E : List (Int × Int)) (hs : List Hd) (W : List (List ByteArray)) (w : World) (hE : Rd w 2 pe ne (encE E)) (hW : RdW w pw nw hs W) (hz : SzW W) :
    Calls Try.prog 56 #[.agg #[.int .i64 N, .slice pe ne ce, .slice pw nw cw]] w fun e w' => e = .returned (.bool (isB N E W)) ∧ Ext w w' := by
  have hu : isB N E W = (checkB N E W && riseB lessE E && !W.any (fun l => !riseB sLess l)) := by unfold isB; rw [← List.all_eq_not_any_not]
  rw [hu]
  have HCk := Lib.hid (fun W1 (h : Ext w W1) => CheckG N pe ne ce pw nw cw E hs W W1 (hE.ext h) (hW.ext h) hz)
  have HRi := Lib.hid (fun W1 (h : Ext w W1) => RiseE pe ne ce E W1 (hE.ext h))
  have HCo := Lib.hid (fun W1 (h : Ext w W1) => ContainsRise pw nw cw hs W W1 (hW.ext h))
  clear hE hW hz hu
  generalize checkB N E W = b1 at *
  generalize riseB lessE E = b2 at *
  generalize W.any (fun l => !riseB sLess l) = b3 at *
  have hx : Ext w (w.alloc (.cells #[.int .i64 N, .slice pe ne ce, .slice pw nw cw] 25)) := (Below.refl _ _).alloc (Nat.le_refl _) _
  have c0 : (w.alloc (.cells #[.int .i64 N, .slice pe ne ce, .slice pw nw cw] 25)).cell? ⟨w.heap.size, 0, none⟩ = some (.int .i64 N) := by simp
  have c1 : (w.alloc (.cells #[.int .i64 N, .slice pe ne ce, .slice pw nw cw] 25)).cell? ⟨w.heap.size, 1, none⟩ = some (.slice pe ne ce) := by simp
  have c2 : (w.alloc (.cells #[.int .i64 N, .slice pe ne ce, .slice pw nw cw] 25)).cell? ⟨w.heap.size, 2, none⟩ = some (.slice pw nw cw) := by simp
  cases b1 <;> cases b2 <;> cases b3 <;>
  (go_enter Try.func56, Try.ntmps56
   go_wp2
   obtain ⟨wo, hwo⟩ : ∃ wo, wo = w.alloc (.cells #[.int .i64 N, .slice pe ne ce, .slice pw nw cw] 25) := ⟨_, rfl⟩
   rw [← hwo] at hx c0 c1 c2 ⊢
   have HX := Lib.hid hx
   have e0 : ∀ x : ExtOf wo, x.val.cell? ⟨w.heap.size, 0, none⟩ = _ := fun x => x.ext.cell c0
   have e1 : ∀ x : ExtOf wo, x.val.cell? ⟨w.heap.size, 1, none⟩ = _ := fun x => x.ext.cell c1
   have e2 : ∀ x : ExtOf wo, x.val.cell? ⟨w.heap.size, 2, none⟩ = _ := fun x => x.ext.cell c2
   refine wp_region_ext (by kernel_rfl) (by kernel_rfl) ?_
   repeat (go_big_quiet_step ((first | (go_at_call 80; exact Calls.ext_of (HCk.out _ (Ext.trans HX.out (ExtOf.ext _)))) | (go_at_call 82; exact Calls.ext_of (EdgesG _)) | (go_at_call 91; exact Calls.ext_of (HRi.out _ (Ext.trans HX.out (ExtOf.ext _)))) | (go_at_call 92; exact Calls.ext_of (HCo.out _ (Ext.trans HX.out (ExtOf.ext _)))))))
   refine wpQuiet_nil ?_
   rintro w1 ⟨⟨_, hb1⟩, rfl⟩
   go_wp2
   go_ret
   exact ⟨rfl, Ext.trans HX.out hb1⟩)
end Go.Proofs.Ytcjkechemjdboaa
/- The program's rows of a graph: Make. -/
namespace Go.Proofs.Ytcjkechemjdboaa
open Go Go.RowKit Go.Shelf Go.Lib
/-- rows that are read -/
def RowsV (w : World) (v : Value) (O T R V : List Int) : Prop :=
  ∃ po no co pt nt ct pr nr cr pv nv cv, v = .agg #[.slice po no co, .slice pt nt ct, .slice pr nr cr, .slice pv nv cv] ∧ Rd w 1 po no (encI O) ∧ Rd w 1 pt nt (encI T) ∧ Rd w 1 pr nr (encI R) ∧ Rd w 1 pv nv (encI V) ∧ no ≤ co ∧ nt ≤ ct ∧ nr ≤ cr ∧ nv ≤ cv
theorem RowsV.ext {w w' : World} {v : Value} {O T R V : List Int} (h : RowsV w v O T R V) (he : Ext w w') : RowsV w' v O T R V := by
  obtain ⟨po, no, co, pt, nt, ct, pr, nr, cr, pv, nv, cv, h0, h1, h2, h3, h4, h5⟩ := h
  exact ⟨po, no, co, pt, nt, ct, pr, nr, cr, pv, nv, cv, h0, h1.ext he, h2.ext he, h3.ext he, h4.ext he, h5⟩
def turnE (E : List (Int × Int)) : List (Int × Int) := putAll lessE (E.map swapE)
def rO (b : Bool) (n : Nat) (E : List (Int × Int)) : List Int := if b = true then offL n E else []
def rT (b : Bool) (E : List (Int × Int)) : List Int := if b = true then toL E else []
def rC (b : Bool) : Int := if b = true then 0 else 20
theorem turnE_bd {N : Int} {E : List (Int × Int)} (h : ∀ x ∈ E, edgeOk N x = true) : ∀ x ∈ turnE E, 0 ≤ x.1 ∧ x.1 < N := fun x hx => by
  unfold turnE at hx
  rw [putAll_mem stoE, List.mem_map] at hx
  obtain ⟨y, hy, rfl⟩ := hx
  have := h y hy
  unfold edgeOk at this
  simp at this
  unfold swapE
  simp only
  omega
set_option maxRecDepth 100000 in
set_option maxHeartbeats 4000000 in
theorem RMakeG_no (N : Int) (pe : Option Addr) (ne ce : Nat) (pw : Option Addr) (nw cw : Nat) (E : List (Int × Int)) (hs : List Hd) (W : List (List ByteArray)) (w : World) (hE : Rd w 2 pe ne (encE E)) (hW : RdW w pw nw hs W) (hz : SzW W) (hi : isB N E W = false) :
    Calls Try.prog 36 #[.agg #[.int .i64 N, .slice pe ne ce, .slice pw nw cw]] w fun e w' => e = .returned (.tuple #[.agg #[.slice none 0 0, .slice none 0 0, .slice none 0 0, .slice none 0 0], .int .i64 20]) ∧ Ext w w' := by
  have HI := Lib.hid (fun W1 (h : Ext w W1) => IsG N pe ne ce pw nw cw E hs W W1 (hE.ext h) (hW.ext h) hz)
  rw [hi] at HI
  have S0 := Lib.hid (((Sep.start w).al #[.int .i64 N, .slice pe ne ce, .slice pw nw cw] 25 w.heap.size rfl).al #[.slice none 0 0, .slice none 0 0, .slice none 0 0, .slice none 0 0] 52 (w.heap.size + 1) (by simp))
  clear hE hW hz hi
  go_enter Try.func36, Try.ntmps36
  go_wp2_with (go_at_call 56; go_must (refine (HI.out _ S0.out.ext).mono ?_; rintro e w1 ⟨rfl, hb⟩; have S1 := Lib.hid (S0.out.call hb); have a0 := (S1.out.blk 0 rfl).cell 0; have a1 := (S1.out.blk 0 rfl).cell 1; have a2 := (S1.out.blk 0 rfl).cell 2; have a3 := (S1.out.blk 0 rfl).cell 3; have b0 := (S1.out.blk 0 rfl).frozen 0; have b1 := (S1.out.blk 0 rfl).frozen 1; have b2 := (S1.out.blk 0 rfl).frozen 2; have b3 := (S1.out.blk 0 rfl).frozen 3; have zb := (S1.out.blk 0 rfl).lt; clear hb))
  have S4 := (((S1.out.set 0 rfl 0 (.slice none 0 0)).set 0 rfl 1 (.slice none 0 0)).set 0 rfl 2 (.slice none 0 0)).set 0 rfl 3 (.slice none 0 0)
  have k0 := (S4.blk 0 rfl).cell 0
  have k1 := (S4.blk 0 rfl).cell 1
  have k2 := (S4.blk 0 rfl).cell 2
  have k3 := (S4.blk 0 rfl).cell 3
  refine bodyPost_ret (v := .tuple #[.agg #[.slice none 0 0, .slice none 0 0, .slice none 0 0, .slice none 0 0], .int .i64 20]) (by simp [results, Try.results36, go_sem, k0, k1, k2, k3, Try.sizeOf52, Try.isAgg52]) rfl ⟨rfl, S4.ext⟩
set_option maxRecDepth 100000 in
set_option maxHeartbeats 8000000 in
theorem RMakeG_yes (n : Nat) (pe : Option Addr) (ne ce : Nat) (pw : Option Addr) (nw cw : Nat) (E : List (Int × Int)) (hs : List Hd) (W : List (List ByteArray)) (w : World) (hE : Rd w 2 pe ne (encE E)) (hW : RdW w pw nw hs W) (hz : SzW W) (hi : isB n E W = true) :
    Calls Try.prog 36 #[.agg #[.int .i64 n, .slice pe ne ce, .slice pw nw cw]] w fun e w' => ∃ v, e = .returned (.tuple #[v, .int .i64 0]) ∧ RowsV w' v (offL n E) (toL E) (offL n (turnE E)) (toL (turnE E)) ∧ Ext w w' := by
  have HI := Lib.hid (fun W1 (h : Ext w W1) => IsG n pe ne ce pw nw cw E hs W W1 (hE.ext h) (hW.ext h) hz)
  rw [hi] at HI
  have hc : checkB n E W = true := by
    unfold isB at hi
    rw [Bool.and_eq_true, Bool.and_eq_true] at hi
    exact hi.1.1
  obtain ⟨h1, h2, h3, h4, h5, h6⟩ := checkB_parts hc
  have hEb : ∀ x ∈ E, edgeOk n x = true := List.all_eq_true.1 h5
  have l1 := hE.nE
  have HT := Lib.hid (fun W1 (h : Ext w W1) => TurnedG n pe ne ce pw nw cw E hs W W1 (hE.ext h) (hW.ext h) hz (by omega))
  have hcs : checkB n (E.map swapE) W = true := by rw [check_swap]; exact hc
  obtain ⟨a1, a2, a3, a4⟩ := norm_of hcs (rfl : _ = turnE E) (rfl : _ = W.map (putAll sLess))
  rw [a1, a2, a3, a4] at HT
  have hlt : (turnE E).length ≤ 2000 := by
    unfold turnE
    have := putAll_len lessE (E.map swapE)
    rw [List.length_map] at this; omega
  have HL1 := Lib.hid (fun W1 (h : Ext w W1) => laidG n pe ne ce E W1 (hE.ext h) (by omega) (by omega) (fun x hx => by have := hEb x hx; unfold edgeOk at this; simp at this; omega))
  have HL2 := Lib.hid (fun q c W1 (h : Rd W1 2 q (turnE E).length (encE (turnE E))) => laidG n q (turnE E).length c (turnE E) W1 h (by omega) hlt (turnE_bd hEb))
  generalize turnE E = F at *
  have S0 := Lib.hid (((Sep.start w).al #[.int .i64 n, .slice pe ne ce, .slice pw nw cw] 25 w.heap.size rfl).al #[.slice none 0 0, .slice none 0 0, .slice none 0 0, .slice none 0 0] 52 (w.heap.size + 1) (by simp))
  have h2' : n ≤ 200 := by omega
  have h3' : ne ≤ 2000 := by omega
  generalize W.map (putAll sLess) = V at *
  clear hE hW hz hi hc hcs a1 a2 a3 a4 h1 h2 h3 h4 h5 h6 hEb l1
  go_enter Try.func36, Try.ntmps36
  go_wp2_with (first
    | (go_at_call 74; have _t := T4; go_must (refine (HL2.out q2 k2 _ ((K2.out.ext T4.out.ext).get 0 rfl)).mono ?_; rintro e w5 ⟨qr, cr, qv, cv, rfl, T⟩; have T5 := Lib.hid (T4.out.comp T); have r0 := (T5.out.blk 4 rfl).cell 0; have r1 := (T5.out.blk 4 rfl).cell 1; have r2c := (T5.out.blk 4 rfl).cell 2; have r3 := (T5.out.blk 4 rfl).cell 3; have rf2 := (T5.out.blk 4 rfl).frozen 2; have rf3 := (T5.out.blk 4 rfl).frozen 3; have rz := (T5.out.blk 4 rfl).lt; have S5 := S2.out.comp T5.out; have u0 := (S5.blk 6 rfl).cell 0; have u1 := (S5.blk 6 rfl).cell 1; have u2 := (S5.blk 6 rfl).cell 2; have u3 := (S5.blk 6 rfl).cell 3; have uf0 := (S5.blk 6 rfl).frozen 0; have uf1 := (S5.blk 6 rfl).frozen 1; have uf2 := (S5.blk 6 rfl).frozen 2; have uf3 := (S5.blk 6 rfl).frozen 3; have uz := (S5.blk 6 rfl).lt; clear T S5))
    | (go_at_call 74; have _t := S2; go_must (refine (HL1.out _ (Ext.trans S2.out.ext (((Sep.start w2).al #[.int .i64 n, .slice q2 F.length k2, .slice r2 V.length m2] 25 w2.heap.size rfl).al #[.slice none 0 0, .slice none 0 0, .slice none 0 0, .slice none 0 0] 52 (w2.heap.size + 1) (by simp)).ext)).mono ?_; rintro e w4 ⟨qo, co, qt, ct, rfl, T⟩; have T3 := (((Sep.start w2).al #[.int .i64 n, .slice q2 F.length k2, .slice r2 V.length m2] 25 w2.heap.size rfl).al #[.slice none 0 0, .slice none 0 0, .slice none 0 0, .slice none 0 0] 52 (w2.heap.size + 1) (by simp)).comp T; have c0 := (T3.blk 2 rfl).cell 0; have c1 := (T3.blk 2 rfl).cell 1; have f0 := (T3.blk 2 rfl).frozen 0; have f1 := (T3.blk 2 rfl).frozen 1; have cz := (T3.blk 2 rfl).lt; have t1 := (T3.blk 3 rfl).cell 1; have tz := (T3.blk 3 rfl).lt; have S3 := S2.out.comp T3; have n0 := (S3.blk 5 rfl).cell 0; have nz := (S3.blk 5 rfl).lt; have T4 := Lib.hid ((T3.set 2 rfl 0 (.slice qo (n + 1) co)).set 2 rfl 1 (.slice qt ne ct)); clear T T3 S3))
    | (go_at_call 47; have _t := S1; go_must (refine (HT.out _ S1.out.ext).mono ?_; rintro e w2 ⟨va, rfl, ⟨q2, k2, r2, m2, h2, rfl, oe, ow⟩, hb⟩; have S2 := Lib.hid (S1.out.call hb); have K2 := Lib.hid ((Kn.nil w2).add (fun w => Rd w 2 q2 F.length (encE F)) (fun _ he => (Rd.of_own oe (by omega)).ext he)); have gz := (S2.out.blk 1 rfl).lt; have g0 := (S2.out.blk 1 rfl).cell 0; have g1 := (S2.out.blk 1 rfl).cell 1; have g2 := (S2.out.blk 1 rfl).cell 2; have gz2 := (S2.out.blk 0 rfl).lt; clear hb oe ow))
    | (go_at_call 56; go_must (refine (HI.out _ S0.out.ext).mono ?_; rintro e w1 ⟨rfl, hb⟩; have S1 := Lib.hid (S0.out.call hb); have xz := (S1.out.blk 1 rfl).lt; have x0 := (S1.out.blk 1 rfl).cell 0; have x1 := (S1.out.blk 1 rfl).cell 1; have x2 := (S1.out.blk 1 rfl).cell 2; clear hb)))
  have S6 := S2.out.comp ((T5.out.set 4 rfl 2 (.slice qr (n + 1) cr)).set 4 rfl 3 (.slice qv F.length cv))
  have S7 := (((S6.set 6 rfl 0 (.slice qo (n + 1) co)).set 6 rfl 1 (.slice qt ne ct)).set 6 rfl 2 (.slice qr (n + 1) cr)).set 6 rfl 3 (.slice qv F.length cv)
  have b0 := (S7.blk 6 rfl).cell 0
  have b1 := (S7.blk 6 rfl).cell 1
  have b2 := (S7.blk 6 rfl).cell 2
  have b3 := (S7.blk 6 rfl).cell 3
  refine bodyPost_ret (v := .tuple #[.agg #[.slice qo (n + 1) co, .slice qt ne ct, .slice qr (n + 1) cr, .slice qv F.length cv], .int .i64 0]) (by simp [results, Try.results36, go_sem, b0, b1, b2, b3, Try.sizeOf52, Try.isAgg52]) rfl ⟨_, rfl, ?_, S7.ext⟩
  exact ⟨qo, _, co, qt, _, ct, qr, _, cr, qv, _, cv, rfl, S7.rd 3 rfl (by omega), S7.rd 2 rfl (by omega), S7.rd 1 rfl (by omega), S7.rd 0 rfl (by omega), own_cap (S7.own 3 rfl), own_cap (S7.own 2 rfl), own_cap (S7.own 1 rfl), own_cap (S7.own 0 rfl)⟩
theorem RMakeG (N : Int) (pe : Option Addr) (ne ce : Nat) (pw : Option Addr) (nw cw : Nat) (E : List (Int × Int)) (hs : List Hd) (W : List (List ByteArray)) (w : World) (hE : Rd w 2 pe ne (encE E)) (hW : RdW w pw nw hs W) (hz : SzW W) :
    Calls Try.prog 36 #[.agg #[.int .i64 N, .slice pe ne ce, .slice pw nw cw]] w fun e w' => ∃ v, e = .returned (.tuple #[v, .int .i64 (rC (isB N E W))]) ∧ RowsV w' v (rO (isB N E W) N.toNat E) (rT (isB N E W) E) (rO (isB N E W) N.toNat (turnE E)) (rT (isB N E W) (turnE E)) ∧ Ext w w' := by
  cases hi : isB N E W with
  | false =>
    refine (RMakeG_no N pe ne ce pw nw cw E hs W w hE hW hz hi).mono ?_
    rintro e w' ⟨rfl, h⟩
    exact ⟨_, rfl, ⟨none, 0, 0, none, 0, 0, none, 0, 0, none, 0, 0, rfl, Rd.nil _ _ _, Rd.nil _ _ _, Rd.nil _ _ _, Rd.nil _ _ _, Nat.le_refl _, Nat.le_refl _, Nat.le_refl _, Nat.le_refl _⟩, h⟩
  | true =>
    have hN : 1 ≤ N := by
      unfold isB at hi
      rw [Bool.and_eq_true, Bool.and_eq_true] at hi
      exact (checkB_parts hi.1.1).1
    obtain ⟨n, rfl⟩ : ∃ n : Nat, N = (n : Int) := ⟨N.toNat, by omega⟩
    exact RMakeG_yes n pe ne ce pw nw cw E hs W w hE hW hz hi
end Go.Proofs.Ytcjkechemjdboaa
/- The document's example rows. -/
namespace Go.Proofs.Ytcjkechemjdboaa
open Go Go.RowKit
def exE3 : List (Int × Int) := [(0, 1), (0, 2), (2, 1)]
def exO : List Int := [0, 2, 2, 3]
def exT : List Int := [1, 2, 1]
def exR : List Int := [0, 0, 2, 3]
def exV : List Int := [0, 2, 0]
theorem exI3 : isB 3 exE3 [[], [], []] = true := by decide
theorem exO_eq : offL 3 exE3 = exO := by decide
theorem exT_eq : toL exE3 = exT := by decide
theorem exR_eq : offL 3 (turnE exE3) = exR := by decide
theorem exV_eq : toL (turnE exE3) = exV := by decide
theorem exCk : checkR exO exT exR exV = true := by decide
theorem exIn : outL true exR exV 1 = [0, 2] ∧ outB true exR 1 = true := by decide
theorem exH1 : hasB true exO exT 0 2 = true := by decide
theorem exH2 : hasB true exO exT 1 0 = false := by decide
theorem exI0 : isB 0 [] [] = false := by decide
/-- four slices are read -/
structure R4 (w : World) (po : Option Addr) (no : Nat) (pt : Option Addr) (nt : Nat) (pr : Option Addr) (nr : Nat) (pv : Option Addr) (nv : Nat) (O T R V : List Int) : Prop where
  o : Rd w 1 po no (encI O)
  t : Rd w 1 pt nt (encI T)
  r : Rd w 1 pr nr (encI R)
  v : Rd w 1 pv nv (encI V)
theorem R4.ext {w w' : World} {po : Option Addr} {no : Nat} {pt : Option Addr} {nt : Nat} {pr : Option Addr} {nr : Nat} {pv : Option Addr} {nv : Nat} {O T R V : List Int} (h : R4 w po no pt nt pr nr pv nv O T R V) (he : Ext w w') : R4 w' po no pt nt pr nr pv nv O T R V := ⟨h.o.ext he, h.t.ext he, h.r.ext he, h.v.ext he⟩
theorem exMk3 (w : World) : Calls Try.prog 36 #[.agg #[.int .i64 3, .slice (some ⟨w.heap.size, 0, none⟩) 3 3, .slice (some ⟨w.heap.size + 1, 0, none⟩) 3 3]] ((w.alloc (.cells #[.int .i64 0, .int .i64 1, .int .i64 0, .int .i64 2, .int .i64 2, .int .i64 1] 71)).alloc (.cells #[.slice none 0 0, .slice none 0 0, .slice none 0 0] 35)) fun e w' =>
    ∃ po no co pt nt ct pr nr cr pv nv cv, e = .returned (.tuple #[.agg #[.slice po no co, .slice pt nt ct, .slice pr nr cr, .slice pv nv cv], .int .i64 0]) ∧ R4 w' po no pt nt pr nr pv nv exO exT exR exV ∧ nt ≤ ct ∧ nv ≤ cv ∧ Ext w w' := by
  obtain ⟨a1, a2, a3⟩ := alloc2B w #[.int .i64 0, .int .i64 1, .int .i64 0, .int .i64 2, .int .i64 2, .int .i64 1] #[.slice none 0 0, .slice none 0 0, .slice none 0 0] 71 35
  generalize ((w.alloc (.cells #[.int .i64 0, .int .i64 1, .int .i64 0, .int .i64 2, .int .i64 2, .int .i64 1] 71)).alloc (.cells #[.slice none 0 0, .slice none 0 0, .slice none 0 0] 35)) = W at *
  have h1 : Rd W 2 (some ⟨w.heap.size, 0, none⟩) 3 (encE exE3) := a1.rd rfl rfl (by decide)
  have h2 : RdW W (some ⟨w.heap.size + 1, 0, none⟩) 3 [⟨none, 0, 0⟩, ⟨none, 0, 0⟩, ⟨none, 0, 0⟩] [[], [], []] := ⟨rfl, a2.rd rfl rfl (by decide), fun j hj => by
    have : j = 0 ∨ j = 1 ∨ j = 2 := by omega
    rcases this with rfl | rfl | rfl <;> exact Rd.nil _ _ _⟩
  have hz : SzW [[], [], []] := fun l hl s hs => by simp at hl; subst hl; cases hs
  refine (RMakeG_yes 3 _ 3 3 _ 3 3 exE3 _ _ W h1 h2 hz exI3).mono ?_
  rintro e w' ⟨v, rfl, ⟨po, no, co, pt, nt, ct, pr, nr, cr, pv, nv, cv, rfl, k1, k2, k3, k4, k5, k6, k7, k8⟩, hb⟩
  rw [exO_eq] at k1
  rw [exT_eq] at k2
  rw [exR_eq] at k3
  rw [exV_eq] at k4
  exact ⟨po, no, co, pt, nt, ct, pr, nr, cr, pv, nv, cv, rfl, ⟨k1, k2, k3, k4⟩, k6, k8, Ext.trans a3 hb⟩
theorem exMk0 (w : World) : Calls Try.prog 36 #[.agg #[.int .i64 0, .slice none 0 0, .slice none 0 0]] w fun e w' => e = .returned (.tuple #[.agg #[.slice none 0 0, .slice none 0 0, .slice none 0 0, .slice none 0 0], .int .i64 20]) ∧ Ext w w' :=
  RMakeG_no 0 none 0 0 none 0 0 [] [] [] w (Rd.nil _ _ _) ⟨rfl, Rd.nil _ _ _, fun j hj => by omega⟩ (fun l hl => nomatch hl) exI0
section
variable (po : Option Addr) (no co : Nat) (pt : Option Addr) (nt ct : Nat) (pr : Option Addr) (nr cr : Nat) (pv : Option Addr) (nv cv : Nat) (w : World) (h : R4 w po no pt nt pr nr pv nv exO exT exR exV) (hct : nt ≤ ct) (hcv : nv ≤ cv)
include h hct hcv
theorem exInG : Calls Try.prog 43 #[.agg #[.slice po no co, .slice pt nt ct, .slice pr nr cr, .slice pv nv cv], .int .i64 1] w fun e w' => ∃ q c, e = .returned (.tuple #[.slice q 2 c, .bool true]) ∧ Rd w' 1 q 2 (encI [0, 2]) ∧ Ext w w' := by
  have := InG po no co exO pt nt ct exT pr nr cr exR pv nv cv exV w 1 h.o h.t h.r h.v hct hcv
  rw [exCk, exIn.1, exIn.2] at this
  exact this.mono fun e w' ⟨q, c, h1, S⟩ => ⟨q, c, h1, S.rd 0 rfl (by decide), S.ext⟩
theorem exCkG : Calls Try.prog 41 #[.agg #[.slice po no co, .slice pt nt ct, .slice pr nr cr, .slice pv nv cv]] w fun e w' => e = .returned (.bool true) ∧ Ext w w' := by
  have := CheckR po no co exO pt nt ct exT pr nr cr exR pv nv cv exV w h.o h.t h.r h.v hct hcv
  rwa [exCk] at this
theorem exHasG1 : Calls Try.prog 44 #[.agg #[.slice po no co, .slice pt nt ct, .slice pr nr cr, .slice pv nv cv], .int .i64 0, .int .i64 2] w fun e w' => e = .returned (.bool true) ∧ Ext w w' := by
  have := HasG po no co exO pt nt ct exT pr nr cr exR pv nv cv exV w 0 2 h.o h.t h.r h.v hct hcv
  rwa [exCk, exH1] at this
theorem exHasG2 : Calls Try.prog 44 #[.agg #[.slice po no co, .slice pt nt ct, .slice pr nr cr, .slice pv nv cv], .int .i64 1, .int .i64 0] w fun e w' => e = .returned (.bool false) ∧ Ext w w' := by
  have := HasG po no co exO pt nt ct exT pr nr cr exR pv nv cv exV w 1 0 h.o h.t h.r h.v hct hcv
  rwa [exCk, exH2] at this
end
/-- the example's rows where they lie -/
theorem exWant4 (w : World) (cs : Array Value) : ∃ X, X = (((((w.alloc (.cells cs 52)).alloc (.cells #[.int .i64 0, .int .i64 2, .int .i64 2, .int .i64 3] 3)).alloc (.cells #[.int .i64 1, .int .i64 2, .int .i64 1] 3)).alloc (.cells #[.int .i64 0, .int .i64 0, .int .i64 2, .int .i64 3] 3)).alloc (.cells #[.int .i64 0, .int .i64 2, .int .i64 0] 3)) ∧
    Sep w X [.blk w.heap.size 52 cs] ∧ X.heap.size = w.heap.size + 1 + 1 + 1 + 1 + 1 ∧
    R4 X (some ⟨w.heap.size + 1, 0, none⟩) 4 (some ⟨w.heap.size + 1 + 1, 0, none⟩) 3 (some ⟨w.heap.size + 1 + 1 + 1, 0, none⟩) 4 (some ⟨w.heap.size + 1 + 1 + 1 + 1, 0, none⟩) 3 exO exT exR exV := by
  have S := (((((Sep.start w).al cs 52 w.heap.size rfl).al #[.int .i64 0, .int .i64 2, .int .i64 2, .int .i64 3] 3 (w.heap.size + 1) (by simp)).al #[.int .i64 1, .int .i64 2, .int .i64 1] 3 (w.heap.size + 1 + 1) (by simp)).al #[.int .i64 0, .int .i64 0, .int .i64 2, .int .i64 3] 3 (w.heap.size + 1 + 1 + 1) (by simp)).al #[.int .i64 0, .int .i64 2, .int .i64 0] 3 (w.heap.size + 1 + 1 + 1 + 1) (by simp)
  exact ⟨_, rfl, S.pick [4] (by decide) rfl, by simp, (S.blk 3 rfl).rd rfl rfl (by decide), (S.blk 2 rfl).rd rfl rfl (by decide), (S.blk 1 rfl).rd rfl rfl (by decide), (S.blk 0 rfl).rd rfl rfl (by decide)⟩
end Go.Proofs.Ytcjkechemjdboaa
/- The document's example rows, told. -/
namespace Go.Proofs.Ytcjkechemjdboaa
open Go Go.RowKit
set_option maxRecDepth 100000 in
set_option maxHeartbeats 4000000 in
theorem Told (w : World) : Calls Try.prog 38 #[] w fun e w' => e = .returned (.bool true) ∧ Ext w w' := by
  go_enter Try.func38, Try.ntmps38
  go_wp2_with (first
    | (go_at_call 44; have _t := S7; go_must (refine (exHasG2 po no co pt nt ct pr nr cr pv nv cv _ (K7.out.get 2 rfl) hct hcv).mono ?_; rintro e w8 ⟨rfl, hb⟩; have S8 := Lib.hid (S7.out.call hb); have K8 := Lib.hid (K7.out.ext hb); have a8z := (S8.out.blk 0 rfl).lt; have a80 := (S8.out.blk 0 rfl).cell 0; have a81 := (S8.out.blk 0 rfl).cell 1; have a82 := (S8.out.blk 0 rfl).cell 2; have a83 := (S8.out.blk 0 rfl).cell 3; have b8z := (S8.out.blk 1 rfl).lt; have b80 := (S8.out.blk 1 rfl).cell 0; have b81 := (S8.out.blk 1 rfl).cell 1; have b82 := (S8.out.blk 1 rfl).cell 2; have b83 := (S8.out.blk 1 rfl).cell 3; clear hb))
    | (go_at_call 44; have _t := S6; go_must (refine (exHasG1 po no co pt nt ct pr nr cr pv nv cv _ (K6.out.get 2 rfl) hct hcv).mono ?_; rintro e w7 ⟨rfl, hb⟩; have S7 := Lib.hid (S6.out.call hb); have K7 := Lib.hid (K6.out.ext hb); have a7z := (S7.out.blk 0 rfl).lt; have a70 := (S7.out.blk 0 rfl).cell 0; have a71 := (S7.out.blk 0 rfl).cell 1; have a72 := (S7.out.blk 0 rfl).cell 2; have a73 := (S7.out.blk 0 rfl).cell 3; have b7z := (S7.out.blk 1 rfl).lt; have b70 := (S7.out.blk 1 rfl).cell 0; have b71 := (S7.out.blk 1 rfl).cell 1; have b72 := (S7.out.blk 1 rfl).cell 2; have b73 := (S7.out.blk 1 rfl).cell 3; clear hb))
    | (go_at_call 24; have _t := S5; go_must (refine (IntsY _ _ _ _ _ _ [0, 2] _ ((K5.out.get 0 rfl).ext (Ext.alloc (Below.refl _ _) _)) (Rd.new w5 3 [.int .i64 0, .int .i64 2] 2 1 rfl (by decide))).mono ?_; rintro e w6 ⟨rfl, hb0⟩; have hb := Ext.trans (Ext.alloc (Below.refl w5.heap.size w5) (.cells #[.int .i64 0, .int .i64 2] 3)) hb0; clear hb0; have S6 := Lib.hid (S5.out.call hb); have K6 := Lib.hid (K5.out.ext hb); have a6z := (S6.out.blk 0 rfl).lt; have a60 := (S6.out.blk 0 rfl).cell 0; have a61 := (S6.out.blk 0 rfl).cell 1; have a62 := (S6.out.blk 0 rfl).cell 2; have a63 := (S6.out.blk 0 rfl).cell 3; have b6z := (S6.out.blk 1 rfl).lt; have b60 := (S6.out.blk 1 rfl).cell 0; have b61 := (S6.out.blk 1 rfl).cell 1; have b62 := (S6.out.blk 1 rfl).cell 2; have b63 := (S6.out.blk 1 rfl).cell 3; clear hb))
    | (go_at_call 41; have _t := S4; go_must (refine (exCkG po no co pt nt ct pr nr cr pv nv cv _ (K4.out.get 2 rfl) hct hcv).mono ?_; rintro e w5 ⟨rfl, hb⟩; have S5 := Lib.hid (S4.out.call hb); have K5 := Lib.hid (K4.out.ext hb); have a5z := (S5.out.blk 0 rfl).lt; have a50 := (S5.out.blk 0 rfl).cell 0; have a51 := (S5.out.blk 0 rfl).cell 1; have a52 := (S5.out.blk 0 rfl).cell 2; have a53 := (S5.out.blk 0 rfl).cell 3; have b5z := (S5.out.blk 1 rfl).lt; have b50 := (S5.out.blk 1 rfl).cell 0; have b51 := (S5.out.blk 1 rfl).cell 1; have b52 := (S5.out.blk 1 rfl).cell 2; have b53 := (S5.out.blk 1 rfl).cell 3; clear hb))
    | (go_at_call 39; have _t := S3; go_must (refine (Same04T po no co exO pt nt ct exT pr nr cr exR pv nv cv exV _ _ _ _ _ _ _ _ _ _ _ _ _ ((K3.out.ext (Ext.alloc (Below.refl _ _) (.cells #[.slice none 0 0, .slice none 0 0, .slice none 0 0, .slice none 0 0] 52))).get 2 rfl).o ((K3.out.ext (Ext.alloc (Below.refl _ _) (.cells #[.slice none 0 0, .slice none 0 0, .slice none 0 0, .slice none 0 0] 52))).get 2 rfl).t ((K3.out.ext (Ext.alloc (Below.refl _ _) (.cells #[.slice none 0 0, .slice none 0 0, .slice none 0 0, .slice none 0 0] 52))).get 2 rfl).r ((K3.out.ext (Ext.alloc (Below.refl _ _) (.cells #[.slice none 0 0, .slice none 0 0, .slice none 0 0, .slice none 0 0] 52))).get 2 rfl).v ((K3.out.ext (Ext.alloc (Below.refl _ _) (.cells #[.slice none 0 0, .slice none 0 0, .slice none 0 0, .slice none 0 0] 52))).get 1 rfl).o ((K3.out.ext (Ext.alloc (Below.refl _ _) (.cells #[.slice none 0 0, .slice none 0 0, .slice none 0 0, .slice none 0 0] 52))).get 1 rfl).t ((K3.out.ext (Ext.alloc (Below.refl _ _) (.cells #[.slice none 0 0, .slice none 0 0, .slice none 0 0, .slice none 0 0] 52))).get 1 rfl).r ((K3.out.ext (Ext.alloc (Below.refl _ _) (.cells #[.slice none 0 0, .slice none 0 0, .slice none 0 0, .slice none 0 0] 52))).get 1 rfl).v).mono ?_; rintro e w4 ⟨rfl, hb0⟩; have hb := Ext.trans (Ext.alloc (Below.refl w3.heap.size w3) (.cells #[.slice none 0 0, .slice none 0 0, .slice none 0 0, .slice none 0 0] 52)) hb0; clear hb0; have S4 := Lib.hid (S3.out.call hb); have K4 := Lib.hid (K3.out.ext hb); have a4z := (S4.out.blk 0 rfl).lt; have a40 := (S4.out.blk 0 rfl).cell 0; have a41 := (S4.out.blk 0 rfl).cell 1; have a42 := (S4.out.blk 0 rfl).cell 2; have a43 := (S4.out.blk 0 rfl).cell 3; have b4z := (S4.out.blk 1 rfl).lt; have b40 := (S4.out.blk 1 rfl).cell 0; have b41 := (S4.out.blk 1 rfl).cell 1; have b42 := (S4.out.blk 1 rfl).cell 2; have b43 := (S4.out.blk 1 rfl).cell 3; clear hb))
    | (go_at_call 36; have _t := S2; go_must (refine (exMk0 _).mono ?_; rintro e w3 ⟨rfl, hb⟩; have S3 := Lib.hid (S2.out.call hb); have K3 := Lib.hid (K2.out.ext hb); have a3z := (S3.out.blk 0 rfl).lt; have a30 := (S3.out.blk 0 rfl).cell 0; have a31 := (S3.out.blk 0 rfl).cell 1; have a32 := (S3.out.blk 0 rfl).cell 2; have a33 := (S3.out.blk 0 rfl).cell 3; have b3z := (S3.out.blk 1 rfl).lt; have b30 := (S3.out.blk 1 rfl).cell 0; have b31 := (S3.out.blk 1 rfl).cell 1; have b32 := (S3.out.blk 1 rfl).cell 2; have b33 := (S3.out.blk 1 rfl).cell 3; clear hb))
    | (go_at_call 43; go_must (obtain ⟨X, hX, SX, zX, RX⟩ := exWant4 w1 #[.slice po no co, .slice pt nt ct, .slice pr nr cr, .slice pv nv cv]; rw [← hX]; refine (exInG po no co pt nt ct pr nr cr pv nv cv _ (HR.out.ext (Ext.trans SX.ext (Ext.alloc (Below.refl _ _) _))) hct hcv).mono ?_; rintro e w2 ⟨q, c, rfl, hl, hb⟩; have S2 := Lib.hid ((SX.al #[.slice (some ⟨w1.heap.size + 1, 0, none⟩) 4 4, .slice (some ⟨w1.heap.size + 1 + 1, 0, none⟩) 3 3, .slice (some ⟨w1.heap.size + 1 + 1 + 1, 0, none⟩) 4 4, .slice (some ⟨w1.heap.size + 1 + 1 + 1 + 1, 0, none⟩) 3 3] 52 (w1.heap.size + 1 + 1 + 1 + 1 + 1) zX).call hb); have K2 := Lib.hid ((((Kn.nil w2).add (fun w => R4 w po no pt nt pr nr pv nv exO exT exR exV) (fun _ he => (HR.out.ext (Ext.trans SX.ext (Ext.trans (Ext.alloc (Below.refl _ _) _) hb))).ext he)).add (fun w => R4 w (some ⟨w1.heap.size + 1, 0, none⟩) 4 (some ⟨w1.heap.size + 1 + 1, 0, none⟩) 3 (some ⟨w1.heap.size + 1 + 1 + 1, 0, none⟩) 4 (some ⟨w1.heap.size + 1 + 1 + 1 + 1, 0, none⟩) 3 exO exT exR exV) (fun _ he => (RX.ext (Ext.trans (Ext.alloc (Below.refl _ _) _) hb)).ext he)).add (fun w => Rd w 1 q 2 (encI [0, 2])) (fun _ he => hl.ext he)); have a2z := (S2.out.blk 0 rfl).lt; have a20 := (S2.out.blk 0 rfl).cell 0; have a21 := (S2.out.blk 0 rfl).cell 1; have a22 := (S2.out.blk 0 rfl).cell 2; have a23 := (S2.out.blk 0 rfl).cell 3; have b2z := (S2.out.blk 1 rfl).lt; have b20 := (S2.out.blk 1 rfl).cell 0; have b21 := (S2.out.blk 1 rfl).cell 1; have b22 := (S2.out.blk 1 rfl).cell 2; have b23 := (S2.out.blk 1 rfl).cell 3; clear hb hX SX zX RX hl))
    | (go_at_call 36; go_must (refine (exMk3 _).mono ?_; rintro e w1 ⟨po, no, co, pt, nt, ct, pr, nr, cr, pv, nv, cv, rfl, hr, hct, hcv, hb⟩; have E1 := Lib.hid hb; have HR := Lib.hid hr; clear hb hr)))
  go_ret
  exact ⟨rfl, Ext.trans E1.out S8.out.ext⟩
end Go.Proofs.Ytcjkechemjdboaa
namespace Go.Proofs.Ytcjkechemjdboaa
open Go Go.RowKit
set_option maxRecDepth 100000 in
set_option maxHeartbeats 1000000 in
theorem Is02_no (N : Int) (pe : Option Addr) (ne ce : Nat) (pw : Option Addr) (nw cw : Nat) (E : List (Int × Int)) (hs : List Hd) (W : List (List ByteArray)) (w : World) (hE : Rd w 2 pe ne (encE E)) (hW : RdW w pw nw hs W) (hz : SzW W) (hc : checkB N E W = false) :
    Calls Try.prog 58 #[.agg #[.int .i64 N, .slice pe ne ce, .slice pw nw cw]] w fun e w' => e = .returned (.bool (isB N E W)) ∧ Ext w w' := by
  have HF := Lib.hid (isB_chk hc)
  have HE := Lib.hid hE; clear hE
  have HW := Lib.hid hW; clear hW
  have HZ := Lib.hid hz; clear hz
  go_enter Try.func58, Try.ntmps58
  go_wp2_with (go_at_call 95; refine (Check02 _ _ _ _ _ _ _ E hs W _ (HE.out.ext (Ext.alloc (Below.refl _ _) _)) (HW.out.ext (Ext.alloc (Below.refl _ _) _)) HZ.out).mono ?_; rintro e w1 ⟨rfl, hb1⟩; have HB := Lib.hid (Ext.trans (Ext.alloc (Below.refl w.heap.size w) _) hb1); clear hb1)
  go_ret
  exact ⟨ret_bool HF.out.symm, HB.out⟩
set_option maxRecDepth 100000 in
set_option maxHeartbeats 1000000 in
theorem Is02_yes (N : Int) (pe : Option Addr) (ne ce : Nat) (pw : Option Addr) (nw cw : Nat) (E : List (Int × Int)) (hs : List Hd) (W : List (List ByteArray)) (w : World) (hE : Rd w 2 pe ne (encE E)) (hW : RdW w pw nw hs W) (hz : SzW W) (hc : checkB N E W = true) :
    Calls Try.prog 58 #[.agg #[.int .i64 N, .slice pe ne ce, .slice pw nw cw]] w fun e w' => e = .returned (.bool (isB N E W)) ∧ Ext w w' := by
  obtain ⟨_, hN, hE2, hWN, _, hW8⟩ := checkB_parts hc
  have hc2 := hc
  have p1 := hE.ptr
  have p2 := hW.row.ptr
  have l1 := hE.nE
  have l2 := hW.nW
  have n1 : ne ≤ 2000 := by omega
  have n2 : nw ≤ 200 := by omega
  obtain rfl : N = (nw : Int) := by omega
  have HE := Lib.hid hE; clear hE
  have HW := Lib.hid hW; clear hW
  have HZ := Lib.hid hz; clear hz
  have L1 := Lib.hid l1; clear l1
  have L2 := Lib.hid l2; clear l2
  have HC := Lib.hid hc2; clear hc2
  clear hE2 hN hWN hW8
  go_enter Try.func58, Try.ntmps58
  go_wp2_with (go_at_call 95; refine (Check02 _ _ _ _ _ _ _ E hs W _ (HE.out.ext (Ext.alloc (Below.refl _ _) _)) (HW.out.ext (Ext.alloc (Below.refl _ _) _)) HZ.out).mono ?_; rintro e w1 ⟨rfl, hb1⟩; have HB := Lib.hid (Ext.trans (Ext.alloc (Below.refl w.heap.size w) _) hb1); have HG := Lib.hid (GBox.ext (GBox.new w _) hb1); clear hb1)
  go_loopw [3] (fun i wr => ∃ k : Nat, 1 ≤ k ∧ (k ≤ ne ∨ k = 1) ∧ i = .int .i64 k ∧ (List.range (k - 1)).all (riseAt lessE E) = true ∧ Ext w wr ∧ GBox wr w.heap.size nw pe ne ce pw nw cw) (fun i _ => ne + 1 - (intOf i).toNat)
  case atStart => exact ⟨1, Nat.le_refl _, .inr rfl, rfl, rfl, HB.out, HG.out⟩
  case round =>
    clear HB HG
    obtain ⟨k, hk1, hk, rfl, ha, hb, gb1⟩ := hrel
    have HA := Lib.hid ha; clear ha
    have HB := Lib.hid hb; clear hb
    have G1 := Lib.hid gb1
    obtain ⟨b0, b1, b2⟩ := gb1
    have hk9 : k ≤ 2001 := by omega
    by_cases hlt : k < ne
    · have g1 := HB.out.cell (HE.out.cE hlt)
      have g2 := HB.out.cell (HE.out.cE2 hlt)
      have g3 := HB.out.cell (HE.out.cE (k := k - 1) (by omega))
      have g4 := HB.out.cell (HE.out.cE2 (k := k - 1) (by omega))
      have e1 : ∀ x : ExtOf wr, x.val.cell? (adr pe (k * 2)) = _ := fun x => x.ext.cell g1
      have e2 : ∀ x : ExtOf wr, x.val.cell? (adr pe (k * 2 + 1)) = _ := fun x => x.ext.cell g2
      have e3 : ∀ x : ExtOf wr, x.val.cell? (adr pe ((k - 1) * 2)) = _ := fun x => x.ext.cell g3
      have e4 : ∀ x : ExtOf wr, x.val.cell? (adr pe ((k - 1) * 2 + 1)) = _ := fun x => x.ext.cell g4
      have e5 : ∀ x : ExtOf wr, x.val.cell? ⟨w.heap.size, 1, none⟩ = _ := fun x => x.ext.cell b1
      have d1 : (0:Int) ≤ k := by omega
      have d2 : (k:Int) < ne := by omega
      have d3 : (0:Int) ≤ (k:Int) - 1 := by omega
      have d4 : (1:Int) ≤ (k:Int) := by omega
      have d5 : (k:Int) - 1 < ne := by omega
      have d6 : ((k:Int) - 1).toNat = k - 1 := by omega
      have hkk : k - 1 + 1 = k := by omega
      have HKK := Lib.hid hkk; clear hkk
      by_cases hless : lessE (nth E (k - 1)) (nth E k) = true
      · go_wp2
        refine wp_region_ext (by kernel_rfl) (by kernel_rfl) ?_
        repeat (go_big_quiet_step ((go_at_call 96; exact Calls.ext_of (Less02 _ _ _ _ _))))
        refine wpQuiet_nil ?_
        rintro w1 ⟨⟨_, hb1⟩, rfl⟩
        go_wp2
        go_roundw
        case rel => exact ⟨k + 1, by omega, .inl (by omega), by go_num, by rw [show k + 1 - 1 = k - 1 + 1 from by omega]; exact range_all_succ _ _ HA.out (by unfold riseAt; rw [HKK.out]; exact hless), Ext.trans HB.out hb1, G1.out.ext hb1⟩
        case measure => simp [intOf]; omega
      · have hless' : lessE (nth E (k - 1)) (nth E k) = false := by simpa using hless
        clear hless
        have HF := Lib.hid (isB_E (N := nw) (W := W) (riseB_no (lt := lessE) (l := E) (k := k - 1) (by rw [HKK.out, ← L1.out]; exact hlt) (by rw [HKK.out]; exact hless')))
        go_wp2
        refine wp_region_ext (by kernel_rfl) (by kernel_rfl) ?_
        repeat (go_big_quiet_step ((go_at_call 96; exact Calls.ext_of (Less02 _ _ _ _ _))))
        refine wpQuiet_nil ?_
        rintro w1 ⟨⟨_, hb1⟩, rfl⟩
        go_wp2
        go_ret
        exact ⟨ret_bool HF.out.symm, Ext.trans HB.out hb1⟩
    · have HEE := Lib.hid (riseB_end (by rw [← L1.out]; exact hlt) HA.out)
      go_wp2
      clear hlt HA hk hk1 hk9
      obtain ⟨wo, rfl⟩ : ∃ wo : World, wo = wr := ⟨_, rfl⟩
      go_loopw [4, 5] (fun i _ wr => ∃ k : Nat, k ≤ nw ∧ i = .int .i64 k ∧ (W.take k).all (riseB sLess) = true ∧ Ext w wr ∧ GBox wr w.heap.size nw pe ne ce pw nw cw) (fun i _ _ => nw - (intOf i).toNat)
      case atStart => exact ⟨0, Nat.zero_le _, rfl, rfl, HB.out, G1.out⟩
      case round =>
        clear HB G1 b0 b1 b2
        obtain ⟨k, hk, rfl, ha, hb, gb1⟩ := hrel
        have HA := Lib.hid ha; clear ha
        have HB := Lib.hid hb; clear hb
        have G1 := Lib.hid gb1
        obtain ⟨b0, b1, b2⟩ := gb1
        by_cases hlt : k < nw
        · have g1 := HB.out.cell (HW.out.row.cH hlt)
          have q1 := (HW.out.each k hlt).ext HB.out
          have p3 := q1.ptr
          have n3 := q1.small
          have l3 := q1.nS
          have Q1 := Lib.hid q1; clear q1
          have L3 := Lib.hid l3; clear l3
          go_wp2
          obtain ⟨wo2, rfl⟩ : ∃ wo2 : World, wo2 = wr := ⟨_, rfl⟩
          go_loopw [5] (fun i wr => ∃ j : Nat, 1 ≤ j ∧ (j ≤ (nth hs k).n ∨ j = 1) ∧ i = .int .i64 j ∧ (List.range (j - 1)).all (riseAt sLess (nth W k)) = true ∧ Ext wo2 wr) (fun i _ => (nth hs k).n + 1 - (intOf i).toNat)
          case atStart => exact ⟨1, Nat.le_refl _, .inr rfl, rfl, rfl, Below.refl _ _⟩
          case round =>
            obtain ⟨j, hj1, hj, rfl, hja, hb⟩ := hrel
            have HJ := Lib.hid hja; clear hja
            replace b0 := hb.cell b0
            replace b1 := hb.cell b1
            replace b2 := hb.cell b2
            replace g1 := hb.cell g1
            replace G1 := Lib.hid (G1.out.ext hb)
            replace HB := Lib.hid (Ext.trans HB.out hb)
            replace Q1 := Lib.hid (Q1.out.ext hb)
            have HX := Lib.hid hb; clear hb
            by_cases hjt : j < (nth hs k).n
            · have g3 := Q1.out.cS hjt
              have g4 := Q1.out.cS (k := j - 1) (by omega)
              have d1 : (0:Int) ≤ j := by omega
              have d2 : (j:Int) < (nth hs k).n := by omega
              have d3 : (0:Int) ≤ (j:Int) - 1 := by omega
              have d4 : (1:Int) ≤ (j:Int) := by omega
              have d5 : (j:Int) - 1 < (nth hs k).n := by omega
              have d6 : ((j:Int) - 1).toNat = j - 1 := by omega
              have c1 : (0:Int) ≤ k := by omega
              have c2 : (k:Int) < nw := by omega
              have hkk : j - 1 + 1 = j := by omega
              have HKK := Lib.hid hkk; clear hkk
              by_cases hless : sLess (nth (nth W k) (j - 1)) (nth (nth W k) j) = true
              · have hl2 : Op.bytesLess (nth (nth W k) (j - 1)).toList (nth (nth W k) j).toList = true := hless
                have HL := Lib.hid hless; clear hless
                go_wp2
                go_quiet (fail)
                go_wp2
                go_roundw
                case rel => exact ⟨j + 1, by omega, .inl (by omega), by go_num, by rw [show j + 1 - 1 = j - 1 + 1 from by omega]; exact range_all_succ _ _ HJ.out (by unfold riseAt; rw [HKK.out]; exact HL.out), HX.out.drewN _⟩
                case measure => simp [intOf]; omega
              · have hless' : sLess (nth (nth W k) (j - 1)) (nth (nth W k) j) = false := by simpa using hless
                clear hless
                have HF := Lib.hid (isB_W (N := nw) (E := E) (W := W) (k := k) (by rw [← L2.out]; exact hlt) (riseB_no (lt := sLess) (l := nth W k) (k := j - 1) (by rw [HKK.out, ← L3.out]; exact hjt) (by rw [HKK.out]; exact hless')))
                have hl2 : Op.bytesLess (nth (nth W k) (j - 1)).toList (nth (nth W k) j).toList = false := hless'
                clear hless'
                go_wp2
                go_quiet (fail)
                go_wp2
                go_ret
                exact ⟨ret_bool HF.out.symm, HB.out.drewN _⟩
            · have HR := Lib.hid (riseB_end (lt := sLess) (l := nth W k) (by rw [← L3.out]; exact hjt) HJ.out)
              go_wp2
              go_roundw
              case rel => exact ⟨k + 1, by omega, by go_num, all_step _ _ _ (by rw [← L2.out]; exact hlt) HA.out HR.out, HB.out, G1.out⟩
              case measure => simp [intOf]; omega
        · have HR := Lib.hid (all_end _ _ _ (by rw [← L2.out]; exact hlt) HA.out)
          go_wp2
          go_ret
          exact ⟨ret_bool (by unfold isB; rw [HC.out, HEE.out, HR.out]; rfl), HB.out⟩
theorem Is02 (N : Int) (pe : Option Addr) (ne ce : Nat) (pw : Option Addr) (nw cw : Nat) (E : List (Int × Int)) (hs : List Hd) (W : List (List ByteArray)) (w : World) (hE : Rd w 2 pe ne (encE E)) (hW : RdW w pw nw hs W) (hz : SzW W) :
    Calls Try.prog 58 #[.agg #[.int .i64 N, .slice pe ne ce, .slice pw nw cw]] w fun e w' => e = .returned (.bool (isB N E W)) ∧ Ext w w' := by
  by_cases hc : checkB N E W = true
  · exact Is02_yes N pe ne ce pw nw cw E hs W w hE hW hz hc
  · exact Is02_no N pe ne ce pw nw cw E hs W w hE hW hz (by simpa using hc)
end Go.Proofs.Ytcjkechemjdboaa
/- Rows made of a graph are right, and tell the graph's edges; rows that are right tell the same, either way. No program in sight. -/
namespace Go.Proofs.Ytcjkechemjdboaa
open Go Go.RowKit
theorem nodup_le {α : Type} [DecidableEq α] : ∀ {l m : List α}, l.Nodup → (∀ x ∈ l, x ∈ m) → l.length ≤ m.length
  | [], _, _, _ => by simp
  | a :: l, m, h, hm => by
    obtain ⟨h1, h2⟩ := List.nodup_cons.1 h
    have ha := hm a (by simp)
    have ih := nodup_le (m := m.erase a) h2 fun x hx => (List.mem_erase_of_ne (fun e => h1 (by rw [← e]; exact hx))).2 (hm x (by simp [hx]))
    rw [List.length_erase_of_mem ha] at ih
    have := List.length_pos_of_mem ha
    rw [List.length_cons]; omega
theorem rises_pick {α : Type} {lt : α → α → Bool} {l m : List α} (h : Rises lt l) (hs : m.Sublist l) : Rises lt m := List.Pairwise.sublist hs h
section
variable {n : Nat} {A : List (Int × Int)}
/-- the k-th offset is the length of what comes ahead -/
theorem off_at (hb : ∀ x ∈ A, 0 ≤ x.1 ∧ x.1 < n) {k : Nat} (hk : k < n + 1) : (nth (offL n A) k).toNat = (placesK A k).length := by
  rw [offL_nth A hk, placesK_len A (fun x hx => (hb x hx).1) k]; omega
theorem to_split (h : Rises lessE A) (hb : ∀ x ∈ A, 0 ≤ x.1 ∧ x.1 < n) {k : Nat} (hk : k < n) : ∃ t, toL A = (placesK A k).map (·.2) ++ ((placeE A k).map (·.2) ++ t) := by
  have h1 : placesK A n = A := places_all h hb
  have h2 : ∀ d j, ∃ t, placesK A (j + d) = placesK A j ++ t := by
    intro d
    induction d with
    | zero => intro j; exact ⟨[], by simp⟩
    | succ d ih =>
      intro j
      obtain ⟨t, ht⟩ := ih j
      exact ⟨t ++ placeE A (j + d), by rw [← Nat.add_assoc, placesK_step, ht, List.append_assoc]⟩
  obtain ⟨t, ht⟩ := h2 (n - (k + 1)) (k + 1)
  rw [show k + 1 + (n - (k + 1)) = n by omega, h1] at ht
  refine ⟨t.map (·.2), ?_⟩
  unfold toL
  conv => lhs; rw [ht, placesK_step]
  simp
theorem row_of (h : Rises lessE A) (hb : ∀ x ∈ A, 0 ≤ x.1 ∧ x.1 < n) {k : Nat} (hk : k < n) : rowL (offL n A) (toL A) k = (placeE A k).map (·.2) := by
  obtain ⟨t, ht⟩ := to_split h hb hk
  unfold rowL
  rw [off_at hb (by omega), off_at hb (by omega), placesK_step, List.length_append, ht]
  rw [List.drop_left' (by simp), Nat.add_sub_cancel_left, List.take_left' (by simp)]
theorem rowX_of (h : Rises lessE A) (hb : ∀ x ∈ A, 0 ≤ x.1 ∧ x.1 < n) {k : Nat} (hk : k < n) : rowX (offL n A) (toL A) k = placeE A k := by
  unfold rowX
  rw [row_of h hb hk, List.map_map]
  conv => rhs; rw [← List.map_id (placeE A k)]
  refine List.map_congr_left fun x hx => ?_
  unfold placeE at hx
  rw [List.mem_filter, decide_eq_true_eq] at hx
  simp only [Function.comp, id]
  rw [← hx.2]
theorem pairs_of (h : Rises lessE A) (hb : ∀ x ∈ A, 0 ≤ x.1 ∧ x.1 < n) : pairs (offL n A) (toL A) = A := by
  have : ∀ k, k ≤ n → pairsK (offL n A) (toL A) k = placesK A k := by
    intro k
    induction k with
    | zero => intro _; rfl
    | succ k ih => intro hk; rw [pairsK_step, placesK_step, ih (by omega), rowX_of h hb (by omega)]
  unfold pairs
  rw [offL_len, Nat.add_sub_cancel, this n (Nat.le_refl _), places_all h hb]
theorem half_of (h : Rises lessE A) (hb : ∀ x ∈ A, 0 ≤ x.1 ∧ x.1 < n ∧ 0 ≤ x.2 ∧ x.2 < n) (h1 : 1 ≤ n) (h2 : n ≤ 200) (h3 : A.length ≤ 2000) : halfB (offL n A) (toL A) = true := by
  have hb' : ∀ x ∈ A, 0 ≤ x.1 ∧ x.1 < n := fun x hx => ⟨(hb x hx).1, (hb x hx).2.1⟩
  have e0 : nth (offL n A) 0 = 0 := by
    rw [offL_nth A (by omega), List.countP_eq_zero.2 fun x hx => by have := (hb x hx).1; simp; omega]; rfl
  have en : nth (offL n A) n = A.length := by
    rw [offL_nth A (by omega), List.countP_eq_length.2 fun x hx => by have := (hb x hx).2.1; simp; omega]
  have es : sortB (offL n A) = true := by
    unfold sortB
    rw [List.all_eq_true]
    intro v hv
    rw [List.mem_range, offL_len] at hv
    rw [offL_nth A (by omega), offL_nth A (by omega), count_step]
    simp; omega
  unfold halfB offB
  rw [offL_len, e0, Nat.add_sub_cancel, en, es]
  have : (toL A).length = A.length := by simp [toL]
  rw [this]
  rw [decide_eq_true (by omega : 2 ≤ n + 1), decide_eq_true (by omega : n + 1 ≤ 201), decide_eq_true h3]
  simp only [decide_true, Bool.true_and, List.all_eq_true]
  intro v hv
  rw [List.mem_range] at hv
  rw [okRow_iff, row_of h hb' hv]
  refine ⟨fun x hx => ?_, ?_⟩
  · obtain ⟨y, hy, rfl⟩ := List.mem_map.1 hx
    unfold placeE at hy
    exact (hb y (List.mem_filter.1 hy).1).2.2
  · rw [Rises, List.pairwise_map]
    refine (h.sublist (List.filter_sublist (p := fun x : Int × Int => decide (x.1 = (v:Int))))).imp_of_mem fun {a b} ha hb hab => ?_
    have ha := List.mem_filter.1 ha
    have hb := List.mem_filter.1 hb
    rw [decide_eq_true_eq] at ha hb
    rw [lessE_iff] at hab
    simp only [ltI, decide_eq_true_eq]
    omega
end
theorem mem_row_of {n : Nat} {A : List (Int × Int)} (h : Rises lessE A) (hb : ∀ x ∈ A, 0 ≤ x.1 ∧ x.1 < n) {k : Nat} (hk : k < n) {y : Int} : y ∈ rowL (offL n A) (toL A) k ↔ ((k:Int), y) ∈ A := by
  rw [row_of h hb hk, List.mem_map]
  unfold placeE
  constructor
  · rintro ⟨x, hx, rfl⟩
    rw [List.mem_filter, decide_eq_true_eq] at hx
    rw [← hx.2]; exact hx.1
  · intro hx; exact ⟨_, List.mem_filter.2 ⟨hx, by simp⟩, rfl⟩
theorem turnE_mem {E : List (Int × Int)} {x : Int × Int} : x ∈ turnE E ↔ swapE x ∈ E := by
  unfold turnE
  rw [putAll_mem stoE, List.mem_map]
  constructor
  · rintro ⟨y, hy, rfl⟩; exact hy
  · intro h; exact ⟨_, h, rfl⟩
theorem turnE_rises (E : List (Int × Int)) : Rises lessE (turnE E) := putAll_rises stoE _
/-- what is made is right -/
theorem check_of {n : Nat} {A : List (Int × Int)} (h : Rises lessE A) (hb : ∀ x ∈ A, 0 ≤ x.1 ∧ x.1 < n ∧ 0 ≤ x.2 ∧ x.2 < n) (h1 : 1 ≤ n) (h2 : n ≤ 200) (h3 : A.length ≤ 2000) :
    checkR (offL n A) (toL A) (offL n (turnE A)) (toL (turnE A)) = true := by
  have hb' : ∀ x ∈ A, 0 ≤ x.1 ∧ x.1 < n := fun x hx => ⟨(hb x hx).1, (hb x hx).2.1⟩
  have hbt : ∀ x ∈ turnE A, 0 ≤ x.1 ∧ x.1 < n ∧ 0 ≤ x.2 ∧ x.2 < n := fun x hx => by
    have := hb _ (turnE_mem.1 hx)
    unfold swapE at this
    simp only at this
    omega
  have hbt' : ∀ x ∈ turnE A, 0 ≤ x.1 ∧ x.1 < n := fun x hx => ⟨(hbt x hx).1, (hbt x hx).2.1⟩
  have hnd : A.Nodup := h.imp fun {a b} hab e => by subst e; rw [lessE_iff] at hab; omega
  have hlen : (turnE A).length = A.length := by
    refine Nat.le_antisymm ?_ ?_
    · have := putAll_len lessE (A.map swapE); rw [List.length_map] at this; exact this
    · have hnt : (turnE A).Nodup := (turnE_rises A).imp fun {a b} hab e => by subst e; rw [lessE_iff] at hab; omega
      have : A.Nodup := hnd
      have h4 := nodup_le (m := (turnE A).map swapE) hnd fun x hx => List.mem_map.2 ⟨swapE x, turnE_mem.2 (by rw [swapE_swapE]; exact hx), swapE_swapE x⟩
      rwa [List.length_map] at h4
  unfold checkR
  rw [half_of h hb h1 h2 h3, half_of (turnE_rises A) hbt h1 h2 (by omega), pairs_of h hb', offL_len, offL_len]
  have e1 : (toL A).length = (toL (turnE A)).length := by simp [toL, hlen]
  rw [decide_eq_true e1]
  simp only [decide_true, Bool.true_and, List.all_eq_true]
  intro x hx
  rw [inB_iff]
  have hx2 := hb x hx
  obtain ⟨u, hu⟩ : ∃ u : Nat, x.2 = (u:Int) := ⟨x.2.toNat, by omega⟩
  rw [hu, Int.toNat_natCast, mem_row_of (turnE_rises A) hbt' (by omega), turnE_mem]
  have : swapE ((u:Int), x.1) = x := by unfold swapE; simp only; rw [← hu]
  rw [this]; exact hx
/-! ### rows that are right tell the same, either way -/
theorem pairs_rises {O T : List Int} (h : halfB O T = true) : ∀ k, k ≤ O.length - 1 → Rises lessE (pairsK O T k)
  | 0, _ => List.Pairwise.nil
  | k + 1, hk => by
    rw [pairsK_step]
    refine List.pairwise_append.2 ⟨pairs_rises h k (by omega), ?_, fun a ha b hb => ?_⟩
    · unfold rowX
      rw [List.pairwise_map]
      refine (row_rises h (by omega)).imp fun {a b} hab => ?_
      rw [lessE_iff]
      simp [ltI] at hab
      right; exact ⟨rfl, hab⟩
    · unfold pairsK rowX at ha
      unfold rowX at hb
      simp only [List.mem_flatMap, List.mem_range, List.mem_map] at ha hb
      obtain ⟨v, h1, y, _, rfl⟩ := ha
      obtain ⟨z, _, rfl⟩ := hb
      rw [lessE_iff]; left; simp only; omega
theorem pairs_count {O T : List Int} (h : halfB O T = true) : (pairs O T).length = T.length := by
  obtain ⟨r1, r2, r3, r4, r5, r6⟩ := offB_parts (halfB_off h)
  have hok := offOk_of (halfB_off h)
  have : ∀ k, k < O.length → (pairsK O T k).length = (nth O k).toNat := by
    intro k
    induction k with
    | zero => intro _; rw [r4]; rfl
    | succ k ih =>
      intro hk
      rw [pairsK_step, List.length_append, ih (by omega)]
      unfold rowX
      rw [List.length_map, rowL_len hok hk]
      have := hok.le k hk
      have := hok.lo k (by omega)
      omega
  unfold pairs
  rw [this _ (by omega), r5]; omega
theorem mem_all {α : Type} [DecidableEq α] {l m : List α} (h : l.Nodup) (hs : ∀ x ∈ l, x ∈ m) (hl : m.length ≤ l.length) {x : α} (hx : x ∈ m) : x ∈ l := by
  by_cases hn : x ∈ l
  · exact hn
  · have h1 := nodup_le (m := m.erase x) h fun y hy => (List.mem_erase_of_ne (fun (e : y = x) => hn (by rw [← e]; exact hy))).2 (hs y hy)
    rw [List.length_erase_of_mem hx] at h1
    have := List.length_pos_of_mem hx
    omega
/-- each pair of the other rows stands in these, turned -/
theorem check_turn {O T R V : List Int} (h : checkR O T R V = true) {x : Int × Int} : x ∈ pairs O T ↔ swapE x ∈ pairs R V := by
  obtain ⟨h1, h2, h3, h4⟩ := checkR_half h
  have hall : ∀ y ∈ pairs O T, swapE y ∈ pairs R V := fun y hy => by
    unfold checkR at h
    simp only [Bool.and_eq_true, List.all_eq_true] at h
    have h5 := h.2 y hy
    rw [inB_iff] at h5
    have hb := pair_bd h3 hy
    exact mem_pairs.2 ⟨y.2.toNat, by omega, by unfold swapE; simp only; omega, h5⟩
  refine ⟨hall x, fun hx => ?_⟩
  have hnd : (pairs O T).Nodup := (pairs_rises h3 _ (Nat.le_refl _)).imp fun {a b} hab e => by subst e; rw [lessE_iff] at hab; omega
  have hnd2 : ((pairs O T).map swapE).Nodup := by
    rw [List.Nodup, List.pairwise_map]
    exact hnd.imp fun {a b} hab e => hab (by have := congrArg swapE e; rwa [swapE_swapE, swapE_swapE] at this)
  have h6 := mem_all hnd2 (fun y hy => by obtain ⟨z, hz, rfl⟩ := List.mem_map.1 hy; exact hall z hz) (by rw [List.length_map, pairs_count h3, pairs_count h4, h2]; exact Nat.le_refl _) hx
  obtain ⟨z, hz, e⟩ := List.mem_map.1 h6
  have : z = x := by have := congrArg swapE e; rwa [swapE_swapE, swapE_swapE] at this
  exact this ▸ hz
theorem row_turn {O T R V : List Int} (h : checkR O T R V = true) {v u : Nat} (hv : v < O.length - 1) (hu : u < O.length - 1) : inB (rowL O T u) v = inB (rowL R V v) u := by
  have h1 := (checkR_half h).1
  rw [Bool.eq_iff_iff, inB_iff, inB_iff]
  have e1 : (v:Int) ∈ rowL O T u ↔ ((u:Int), (v:Int)) ∈ pairs O T := by
    rw [mem_pairs]
    constructor
    · intro h; exact ⟨u, hu, rfl, h⟩
    · rintro ⟨k, _, h2, h3⟩; simp only at h2; have : u = k := by omega
      subst this; exact h3
  have e2 : (u:Int) ∈ rowL R V v ↔ ((v:Int), (u:Int)) ∈ pairs R V := by
    rw [mem_pairs]
    constructor
    · intro h; exact ⟨v, by omega, rfl, h⟩
    · rintro ⟨k, _, h2, h3⟩; simp only at h2; have : v = k := by omega
      subst this; exact h3
  rw [e1, e2, check_turn h]; rfl
end Go.Proofs.Ytcjkechemjdboaa
/- The reference's rows of a graph: Make. -/
namespace Go.Proofs.Ytcjkechemjdboaa
open Go Go.RowKit
/-- the first k offsets -/
def offK (k : Nat) (E : List (Int × Int)) : List Int := (List.range k).map fun (j : Nat) => ((E.countP fun x => decide (x.1 < (j:Int))) : Int)
theorem offK_step (k : Nat) (E : List (Int × Int)) : offK (k + 1) E = offK k E ++ [((E.countP fun x => decide (x.1 < (k:Int))) : Int)] := by
  unfold offK; rw [List.range_succ, List.map_append]; rfl
/-- what has come of a place, when j edges are over -/
def atP (E : List (Int × Int)) (k j : Nat) : List Int := (placesK E k).map (·.2) ++ ((E.take j).filter fun x => decide (x.1 = (k:Int))).map (·.2)
def atQ (E F : List (Int × Int)) (k j : Nat) : List Int := (placesK F k).map (·.2) ++ ((E.take j).filter fun x => decide (x.2 = (k:Int))).map (·.1)
theorem atP_step {E : List (Int × Int)} {j : Nat} (k : Nat) (hj : j < E.length) : atP E k (j + 1) = atP E k j ++ (if (nth E j).1 = (k:Int) then [(nth E j).2] else []) := by
  unfold atP
  rw [filter_take_succ _ E j hj, List.map_append, List.append_assoc]
  by_cases h : (nth E j).1 = (k:Int) <;> simp [h]
theorem atQ_step {E F : List (Int × Int)} {j : Nat} (k : Nat) (hj : j < E.length) : atQ E F k (j + 1) = atQ E F k j ++ (if (nth E j).2 = (k:Int) then [(nth E j).1] else []) := by
  unfold atQ
  rw [filter_take_succ _ E j hj, List.map_append, List.append_assoc]
  by_cases h : (nth E j).2 = (k:Int) <;> simp [h]
theorem atP_zero (E : List (Int × Int)) (k : Nat) : atP E k 0 = (placesK E k).map (·.2) := by unfold atP; simp
theorem atQ_zero (E F : List (Int × Int)) (k : Nat) : atQ E F k 0 = (placesK F k).map (·.2) := by unfold atQ; simp
theorem atP_end (E : List (Int × Int)) (k : Nat) : atP E k E.length = (placesK E (k + 1)).map (·.2) := by
  unfold atP; rw [List.take_length, placesK_step, List.map_append]; rfl
theorem atQ_end {E : List (Int × Int)} (h : Rises lessE E) (k : Nat) : atQ E (turnE E) k E.length = (placesK (turnE E) (k + 1)).map (·.2) := by
  unfold atQ turnE
  rw [List.take_length, placesK_step, List.map_append, placeE_turn h, List.map_map]; rfl
theorem placesK_le (E : List (Int × Int)) (hb : ∀ x ∈ E, 0 ≤ x.1) (k : Nat) : (placesK E k).length ≤ E.length := by
  rw [placesK_len E hb]; exact List.countP_le_length
theorem atP_len {E : List (Int × Int)} (hb : ∀ x ∈ E, 0 ≤ x.1) (k j : Nat) : (atP E k j).length ≤ E.length + E.length := by
  unfold atP
  have h1 := placesK_le E hb k
  have h2 := List.length_filter_le (fun x : Int × Int => decide (x.1 = (k:Int))) (E.take j)
  rw [List.length_take] at h2
  rw [List.length_append, List.length_map, List.length_map]; omega
theorem atQ_len {E F : List (Int × Int)} (hb : ∀ x ∈ F, 0 ≤ x.1) (hl : F.length ≤ E.length) (k j : Nat) : (atQ E F k j).length ≤ E.length + E.length := by
  unfold atQ
  have h1 := placesK_le F hb k
  have h2 := List.length_filter_le (fun x : Int × Int => decide (x.2 = (k:Int))) (E.take j)
  rw [List.length_take] at h2
  rw [List.length_append, List.length_map, List.length_map]; omega
set_option maxRecDepth 100000 in
set_option maxHeartbeats 4000000 in
theorem Mk04_no (N : Int) (pe : Option Addr) (ne ce : Nat) (pw : Option Addr) (nw cw : Nat) (E : List (Int × Int)) (hs : List Hd) (W : List (List ByteArray)) (w : World) (hE : Rd w 2 pe ne (encE E)) (hW : RdW w pw nw hs W) (hz : SzW W) (hi : isB N E W = false) :
    Calls Try.prog 37 #[.agg #[.int .i64 N, .slice pe ne ce, .slice pw nw cw]] w fun e w' => e = .returned (.tuple #[.agg #[.slice none 0 0, .slice none 0 0, .slice none 0 0, .slice none 0 0], .int .i64 20]) ∧ Ext w w' := by
  have HI := Lib.hid (fun W1 (h : Ext w W1) => Is02 N pe ne ce pw nw cw E hs W W1 (hE.ext h) (hW.ext h) hz)
  rw [hi] at HI
  have S0 := Lib.hid (((Sep.start w).al #[.int .i64 N, .slice pe ne ce, .slice pw nw cw] 25 w.heap.size rfl).al #[.slice none 0 0, .slice none 0 0, .slice none 0 0, .slice none 0 0] 52 (w.heap.size + 1) (by simp))
  clear hE hW hz hi
  go_enter Try.func37, Try.ntmps37
  go_wp2_with (go_at_call 58; go_must (refine (HI.out _ S0.out.ext).mono ?_; rintro e w1 ⟨rfl, hb⟩; have S1 := Lib.hid (S0.out.call hb); have a0 := (S1.out.blk 0 rfl).cell 0; have a1 := (S1.out.blk 0 rfl).cell 1; have a2 := (S1.out.blk 0 rfl).cell 2; have a3 := (S1.out.blk 0 rfl).cell 3; have b0 := (S1.out.blk 0 rfl).frozen 0; have b1 := (S1.out.blk 0 rfl).frozen 1; have b2 := (S1.out.blk 0 rfl).frozen 2; have b3 := (S1.out.blk 0 rfl).frozen 3; have zb := (S1.out.blk 0 rfl).lt; clear hb))
  have S4 := (((S1.out.set 0 rfl 0 (.slice none 0 0)).set 0 rfl 1 (.slice none 0 0)).set 0 rfl 2 (.slice none 0 0)).set 0 rfl 3 (.slice none 0 0)
  have k0 := (S4.blk 0 rfl).cell 0
  have k1 := (S4.blk 0 rfl).cell 1
  have k2 := (S4.blk 0 rfl).cell 2
  have k3 := (S4.blk 0 rfl).cell 3
  refine bodyPost_ret (v := .tuple #[.agg #[.slice none 0 0, .slice none 0 0, .slice none 0 0, .slice none 0 0], .int .i64 20]) (by simp [results, Try.results37, go_sem, k0, k1, k2, k3, Try.sizeOf52, Try.isAgg52]) rfl ⟨rfl, S4.ext⟩
set_option maxRecDepth 100000 in
set_option maxHeartbeats 8000000 in
theorem Mk04_yes (n : Nat) (pe : Option Addr) (ne ce : Nat) (pw : Option Addr) (nw cw : Nat) (E : List (Int × Int)) (hs : List Hd) (W : List (List ByteArray)) (w : World) (hE : Rd w 2 pe ne (encE E)) (hW : RdW w pw nw hs W) (hz : SzW W) (hi : isB n E W = true) :
    Calls Try.prog 37 #[.agg #[.int .i64 n, .slice pe ne ce, .slice pw nw cw]] w fun e w' => ∃ v, e = .returned (.tuple #[v, .int .i64 0]) ∧ RowsV w' v (offL n E) (toL E) (offL n (turnE E)) (toL (turnE E)) ∧ Ext w w' := by
  obtain ⟨i0, hi0, hz0, hz1, hz2⟩ := info_parts infI
  have HI := Lib.hid (fun W1 (h : Ext w W1) => Is02 n pe ne ce pw nw cw E hs W W1 (hE.ext h) (hW.ext h) hz)
  rw [hi] at HI
  have hi2 := hi
  unfold isB at hi2
  rw [Bool.and_eq_true, Bool.and_eq_true] at hi2
  have hc : checkB n E W = true := hi2.1.1
  have hris : Rises lessE E := (rise_iff stoE E).1 hi2.1.2
  obtain ⟨h1, h2, h3, h4, h5, h6⟩ := checkB_parts hc
  have hEb : ∀ x ∈ E, edgeOk n x = true := List.all_eq_true.1 h5
  have hb1 : ∀ x ∈ E, 0 ≤ x.1 ∧ x.1 < n := fun x hx => by have := hEb x hx; unfold edgeOk at this; simp at this; omega
  have hb2 : ∀ x ∈ turnE E, 0 ≤ x.1 ∧ x.1 < n := turnE_bd hEb
  have hlt : (turnE E).length ≤ E.length := by
    unfold turnE
    have := putAll_len lessE (E.map swapE)
    rwa [List.length_map] at this
  have PE := Lib.hid (atP_end E)
  have QE := Lib.hid (atQ_end hris)
  have PL := Lib.hid (fun k j => atP_len (fun x hx => (hb1 x hx).1) k j : ∀ k j, (atP E k j).length ≤ _)
  have QL := Lib.hid (fun k j => atQ_len (fun x hx => (hb2 x hx).1) hlt k j : ∀ k j, (atQ E (turnE E) k j).length ≤ _)
  have LE := Lib.hid (placesK_len E (fun x hx => (hb1 x hx).1))
  have LF := Lib.hid (placesK_len (turnE E) (fun x hx => (hb2 x hx).1))
  have AE := Lib.hid (places_all hris (k := n + 1) (fun x hx => by have := hb1 x hx; omega))
  have AF := Lib.hid (places_all (turnE_rises E) (k := n + 1) (fun x hx => by have := hb2 x hx; omega))
  generalize turnE E = F at *
  have S0 := Lib.hid (((Sep.start w).al #[.int .i64 n, .slice pe ne ce, .slice pw nw cw] 25 w.heap.size rfl).al #[.slice none 0 0, .slice none 0 0, .slice none 0 0, .slice none 0 0] 52 (w.heap.size + 1) (by simp))
  have p1 := hE.ptr
  have n200 : n ≤ 200 := by omega
  have L1 := Lib.hid hE.nE
  have ne2000 : ne ≤ 2000 := by have := hE.nE; omega
  have NE : Hid (E.length ≤ 2000) := h3
  have HE := Lib.hid hE; clear hE
  clear hW hz hi hi2 hc hris h1 h2 h3 h4 h5 h6 hEb hb1 hb2 hlt
  go_enter Try.func37, Try.ntmps37
  go_wp2_with (go_at_call 58; go_must (refine (HI.out _ S0.out.ext).mono ?_; rintro e w1 ⟨rfl, hb⟩; have S1 := Lib.hid (S0.out.call hb); clear hb))
  have SB := Lib.hid ((((((S1.out.al #[.slice none 0 0, .slice none 0 0, .slice none 0 0, .slice none 0 0] 52 w1.heap.size rfl).nilrow 3 1).nilrow 3 1).nilrow 3 1).nilrow 3 1))
  have zbw := (S1.out.blk 0 rfl).lt
  have zbg : w.heap.size < w1.heap.size := by omega
  generalize w1.heap.size = b at *
  go_loopw [5, 6] (fun v _ wr => ∃ (k : Nat) (qo : Option Addr) (co : Nat) (qt : Option Addr) (ct : Nat) (qr : Option Addr) (cr : Nat) (qv : Option Addr) (cv : Nat), k ≤ n + 1 ∧ v = .int .i64 k ∧ Sep w wr [.own 3 1 qt ((placesK E k).map (·.2)).length ct (encI ((placesK E k).map (·.2))), .own 3 1 qv ((placesK F k).map (·.2)).length cv (encI ((placesK F k).map (·.2))), .own 3 1 qo (k) co (encI (offK (k) E)), .own 3 1 qr (k) cr (encI (offK (k) F)), .blk b 52 #[.slice qo (k) co, .slice qt ((placesK E k).map (·.2)).length ct, .slice qr (k) cr, .slice qv ((placesK F k).map (·.2)).length cv], .blk (w.heap.size + 1) 52 #[.slice none 0 0, .slice none 0 0, .slice none 0 0, .slice none 0 0], .blk w.heap.size 25 #[.int .i64 n, .slice pe ne ce, .slice pw nw cw]]) (fun v _ _ => n + 1 - (intOf v).toNat)
  case atStart => exact ⟨0, none, 0, none, 0, none, 0, none, 0, Nat.zero_le _, rfl, SB.out⟩
  case round =>
    clear SB S1 S0
    obtain ⟨k, qo0, co0, qt0, ct0, qr0, cr0, qv0, cv0, hk, rfl, S⟩ := hrel
    by_cases hlk : k < n + 1
    · have d1 : (0:Int) ≤ k := by omega
      have d2 : (k:Int) ≤ n := by omega
      have lE : ((placesK E k).map (·.2)).length ≤ 2000 := by
        have h1 := PL.out k 0
        rw [atP_zero] at h1
        rw [List.length_map, LE.out]
        have := List.countP_le_length (p := fun x : Int × Int => decide (x.1 < (k:Int))) (l := E)
        have := NE.out; omega
      have lF : ((placesK F k).map (·.2)).length ≤ 4000 := by
        have h1 := QL.out k 0
        rw [atQ_zero] at h1
        have := NE.out; omega
      have a0 := (S.blk 4 rfl).cell 0; have a1 := (S.blk 4 rfl).cell 1; have a2 := (S.blk 4 rfl).cell 2; have a3 := (S.blk 4 rfl).cell 3; have af0 := (S.blk 4 rfl).frozen 0; have af1 := (S.blk 4 rfl).frozen 1; have af2 := (S.blk 4 rfl).frozen 2; have af3 := (S.blk 4 rfl).frozen 3; have az := (S.blk 4 rfl).lt; have ag0 := (S.blk 6 rfl).cell 0; have ag1 := (S.blk 6 rfl).cell 1; have agz := (S.blk 6 rfl).lt
      have SH := Lib.hid S; clear S
      go_wp2_with (first
        | (at_builtin; have _t := T1; go_must (refine wpList_append_sep rfl _ _ _ rfl 3 i0 _ 1 8 Try.underlying38 hi0 hz0 hz1 hz2 rfl (by omega) (T1.out.junk _) 3 qr0 k cr0 _ rfl rfl _ 1 1 _ rfl (Rd.oneIat _ _ _ _ (by simp [World.setCell])) (one_encI _) (by omega) (by omega) ?_; intro qr cr w3 S' hsz; have c0 := (S'.blk 4 rfl).cell 0; have c1 := (S'.blk 4 rfl).cell 1; have c2 := (S'.blk 4 rfl).cell 2; have c3 := (S'.blk 4 rfl).cell 3; have cf0 := (S'.blk 4 rfl).frozen 0; have cf1 := (S'.blk 4 rfl).frozen 1; have cf2 := (S'.blk 4 rfl).frozen 2; have cf3 := (S'.blk 4 rfl).frozen 3; have cz := (S'.blk 4 rfl).lt; have cg0 := (S'.blk 6 rfl).cell 0; have cg1 := (S'.blk 6 rfl).cell 1; have cgz := (S'.blk 6 rfl).lt; have T2 := Lib.hid (S'.set 4 rfl 2 (.slice qr (k + 1) cr)); clear S' hsz))
        | (at_builtin; go_must (refine wpList_append_sep rfl _ _ _ rfl 3 i0 _ 1 8 Try.underlying38 hi0 hz0 hz1 hz2 rfl (by omega) (SH.out.junk _) 2 qo0 k co0 _ rfl rfl _ 1 1 _ rfl (Rd.oneIat _ _ _ _ (by simp [World.setCell])) (one_encI _) (by omega) (by omega) ?_; intro qo co w2 S' hsz; have e0 := (S'.blk 4 rfl).cell 0; have e1 := (S'.blk 4 rfl).cell 1; have e2 := (S'.blk 4 rfl).cell 2; have e3 := (S'.blk 4 rfl).cell 3; have ef0 := (S'.blk 4 rfl).frozen 0; have ef1 := (S'.blk 4 rfl).frozen 1; have ef2 := (S'.blk 4 rfl).frozen 2; have ef3 := (S'.blk 4 rfl).frozen 3; have ez := (S'.blk 4 rfl).lt; have eg0 := (S'.blk 6 rfl).cell 0; have eg1 := (S'.blk 6 rfl).cell 1; have egz := (S'.blk 6 rfl).lt; have T1 := Lib.hid (S'.set 4 rfl 0 (.slice qo (k + 1) co)); clear S' hsz)))
      go_loopw [6] (fun i wr => ∃ (j : Nat) (qt : Option Addr) (ct : Nat) (qv : Option Addr) (cv : Nat), j ≤ ne ∧ i = .int .i64 j ∧ Sep w wr [.own 3 1 qt (atP E k j).length ct (encI (atP E k j)), .own 3 1 qv (atQ E F k j).length cv (encI (atQ E F k j)), .own 3 1 qo ((k + 1)) co (encI (offK ((k + 1)) E)), .own 3 1 qr ((k + 1)) cr (encI (offK ((k + 1)) F)), .blk b 52 #[.slice qo ((k + 1)) co, .slice qt (atP E k j).length ct, .slice qr ((k + 1)) cr, .slice qv (atQ E F k j).length cv], .blk (w.heap.size + 1) 52 #[.slice none 0 0, .slice none 0 0, .slice none 0 0, .slice none 0 0], .blk w.heap.size 25 #[.int .i64 n, .slice pe ne ce, .slice pw nw cw]]) (fun i _ => ne - (intOf i).toNat)
      case atStart => exact ⟨0, qt0, ct0, qv0, cv0, Nat.zero_le _, rfl, by rw [atP_zero, atQ_zero, offK_step, offK_step, encI_append, encI_append, ← LE.out k, ← LF.out k]; exact T2.out⟩
      case round =>
        clear T1 T2 SH a0 a1 a2 a3 af0 af1 af2 af3 az ag0 ag1 agz c0 c1 c2 c3 cf0 cf1 cf2 cf3 cz cg0 cg1 cgz e0 e1 e2 e3 ef0 ef1 ef2 ef3 ez eg0 eg1 egz
        obtain ⟨j, qt, ct, qv, cv, hj, rfl, S⟩ := hrel
        by_cases hlj : j < ne
        · have hjE : j < E.length := by rw [← L1.out]; exact hlj
          have d3 : (0:Int) ≤ j := by omega
          have d4 : (j:Int) < ne := by omega
          have pb : (adr pe 0).block < w.heap.size := HE.out.lt (by omega)
          have v1 : adr pe (j * 2) ≠ ⟨b, 1, none⟩ := fun e => by
            have e2 : (adr pe (j * 2)).block = b := by rw [e]
            rw [adr_block] at e2; omega
          have v2 : adr pe (j * 2 + 1) ≠ ⟨b, 1, none⟩ := fun e => by
            have e2 : (adr pe (j * 2 + 1)).block = b := by rw [e]
            rw [adr_block] at e2; omega
          have v3 : (⟨b, 1, none⟩ : Addr) ≠ adr pe (j * 2) := fun e => v1 e.symm
          have v4 : (⟨b, 1, none⟩ : Addr) ≠ adr pe (j * 2 + 1) := fun e => v2 e.symm
          have lP := PL.out k j
          have lQ := QL.out k j
          have hPs := Lib.hid (atP_step k hjE)
          have hQs := Lib.hid (atQ_step (F := F) k hjE)
          have ne2 := NE.out
          have a0 := (S.blk 4 rfl).cell 0; have a1 := (S.blk 4 rfl).cell 1; have a2 := (S.blk 4 rfl).cell 2; have a3 := (S.blk 4 rfl).cell 3; have af0 := (S.blk 4 rfl).frozen 0; have af1 := (S.blk 4 rfl).frozen 1; have af2 := (S.blk 4 rfl).frozen 2; have af3 := (S.blk 4 rfl).frozen 3; have az := (S.blk 4 rfl).lt; have ag0 := (S.blk 6 rfl).cell 0; have ag1 := (S.blk 6 rfl).cell 1; have agz := (S.blk 6 rfl).lt
          have e1 := S.ext.cell (HE.out.cE hlj)
          have e2 := S.ext.cell (HE.out.cE2 hlj)
          have SH := Lib.hid S; clear S
          by_cases h1 : (nth E j).1 = (k:Int)
          · have t1 : ((nth E j).1 == (k:Int)) = true := by simpa using h1
            rw [if_pos h1] at hPs
            clear h1
            by_cases h2 : (nth E j).2 = (k:Int)
            · have t2 : ((nth E j).2 == (k:Int)) = true := by simpa using h2
              rw [if_pos h2] at hQs
              clear h2
              go_wp2
              obtain ⟨X, hX⟩ : ∃ X, X = wr := ⟨_, rfl⟩
              have SX := Lib.hid (hX ▸ SH.out : Sep w X _)
              rw [← hX]
              clear hX
              have y0 := (SX.out.blk 4 rfl).cell 0; have y1 := (SX.out.blk 4 rfl).cell 1; have y2 := (SX.out.blk 4 rfl).cell 2; have y3 := (SX.out.blk 4 rfl).cell 3; have yf0 := (SX.out.blk 4 rfl).frozen 0; have yf1 := (SX.out.blk 4 rfl).frozen 1; have yf2 := (SX.out.blk 4 rfl).frozen 2; have yf3 := (SX.out.blk 4 rfl).frozen 3; have yz := (SX.out.blk 4 rfl).lt; have yg0 := (SX.out.blk 6 rfl).cell 0; have yg1 := (SX.out.blk 6 rfl).cell 1; have ygz := (SX.out.blk 6 rfl).lt
              have ye1 := SX.out.ext.cell (HE.out.cE hlj)
              have ye2 := SX.out.ext.cell (HE.out.cE2 hlj)
              have u1 := fun x : ExtOf X => x.ext.cell y1
              have u2 := fun x : ExtOf X => x.ext.cell yg1
              have u3 := fun x : ExtOf X => x.ext.cell ye2
              refine wp_region_mix [true, true, true, true, true, true, true, true, false] (fun _ v W => ∃ p, v = .slice p 1 1 ∧ Rd W 1 p 1 (encI [(nth E j).2])) (by kernel_rfl) (by kernel_rfl) (by kernel_rfl) (fun _ _ _ _ hE ⟨p, h1, h2⟩ => ⟨p, h1, h2.ext hE⟩) ?_
              simp only [nfM]
              repeat (go_big_quiet_step ((fail)))
              refine wpQuiet_nil ⟨⟨fun vs W1 hE hd => ?_, trivial⟩, fun vs W1 hE hkn => ?_⟩
              · simp [putM, execOp, go_sem]
                exact ⟨Rd.oneI _ _ _, Ext.alloc (Below.refl _ _) _⟩
              obtain ⟨⟨p', hv, RA⟩, _⟩ := hkn
              have HRA := Lib.hid RA
              have SY := Lib.hid (SX.out.call hE)
              simp only [putM, hv, List.length_cons, List.length_nil, Nat.zero_add, Nat.reduceAdd, List.drop_succ_cons, List.drop_zero]
              clear u1 u2 u3 hv RA hE y0 y1 y2 y3 yf0 yf1 yf2 yf3 yz yg0 yg1 ygz ye1 ye2
              go_wp2_with (at_builtin; go_must (refine wpList_append_sep rfl _ _ _ rfl 3 i0 _ 1 8 Try.underlying38 hi0 hz0 hz1 hz2 rfl (by omega) SY.out 0 qt (atP E k j).length ct _ rfl rfl p' 1 1 _ rfl HRA.out (one_encI _) (by omega) (by omega) ?_; intro qt' ct' w5 S' hsz; have z0 := (S'.blk 4 rfl).cell 0; have z1 := (S'.blk 4 rfl).cell 1; have z2 := (S'.blk 4 rfl).cell 2; have z3 := (S'.blk 4 rfl).cell 3; have zf0 := (S'.blk 4 rfl).frozen 0; have zf1 := (S'.blk 4 rfl).frozen 1; have zf2 := (S'.blk 4 rfl).frozen 2; have zf3 := (S'.blk 4 rfl).frozen 3; have zz := (S'.blk 4 rfl).lt; have zg0 := (S'.blk 6 rfl).cell 0; have zg1 := (S'.blk 6 rfl).cell 1; have zgz := (S'.blk 6 rfl).lt; have ze1 := S'.ext.cell (HE.out.cE hlj); have ze2 := S'.ext.cell (HE.out.cE2 hlj); have SZ := Lib.hid (S'.set 4 rfl 1 (.slice qt' ((atP E k j).length + 1) ct')); clear S' hsz))
              obtain ⟨X, hX⟩ : ∃ X, X = w5.setCell ⟨b, 1, none⟩ (.slice qt' ((atP E k j).length + 1) ct') := ⟨_, rfl⟩
              have SX := Lib.hid (hX ▸ SZ.out : Sep w X _)
              rw [← hX]
              clear hX
              have y0 := (SX.out.blk 4 rfl).cell 0; have y1 := (SX.out.blk 4 rfl).cell 1; have y2 := (SX.out.blk 4 rfl).cell 2; have y3 := (SX.out.blk 4 rfl).cell 3; have yf0 := (SX.out.blk 4 rfl).frozen 0; have yf1 := (SX.out.blk 4 rfl).frozen 1; have yf2 := (SX.out.blk 4 rfl).frozen 2; have yf3 := (SX.out.blk 4 rfl).frozen 3; have yz := (SX.out.blk 4 rfl).lt; have yg0 := (SX.out.blk 6 rfl).cell 0; have yg1 := (SX.out.blk 6 rfl).cell 1; have ygz := (SX.out.blk 6 rfl).lt
              have ye1 := SX.out.ext.cell (HE.out.cE hlj)
              have ye2 := SX.out.ext.cell (HE.out.cE2 hlj)
              have u1 := fun x : ExtOf X => x.ext.cell y3
              have u2 := fun x : ExtOf X => x.ext.cell yg1
              have u3 := fun x : ExtOf X => x.ext.cell ye1
              refine wp_region_mix [true, true, true, true, true, true, true, true, false] (fun _ v W => ∃ p, v = .slice p 1 1 ∧ Rd W 1 p 1 (encI [(nth E j).1])) (by kernel_rfl) (by kernel_rfl) (by kernel_rfl) (fun _ _ _ _ hE ⟨p, h1, h2⟩ => ⟨p, h1, h2.ext hE⟩) ?_
              simp only [nfM]
              repeat (go_big_quiet_step ((fail)))
              refine wpQuiet_nil ⟨⟨fun vs W1 hE hd => ?_, trivial⟩, fun vs W1 hE hkn => ?_⟩
              · simp [putM, execOp, go_sem]
                exact ⟨Rd.oneI _ _ _, Ext.alloc (Below.refl _ _) _⟩
              obtain ⟨⟨p', hv, RA⟩, _⟩ := hkn
              have HRA := Lib.hid RA
              have SY := Lib.hid (SX.out.call hE)
              simp only [putM, hv, List.length_cons, List.length_nil, Nat.zero_add, Nat.reduceAdd, List.drop_succ_cons, List.drop_zero]
              clear u1 u2 u3 hv RA hE y0 y1 y2 y3 yf0 yf1 yf2 yf3 yz yg0 yg1 ygz ye1 ye2
              go_wp2_with (at_builtin; go_must (refine wpList_append_sep rfl _ _ _ rfl 3 i0 _ 1 8 Try.underlying38 hi0 hz0 hz1 hz2 rfl (by omega) SY.out 1 qv (atQ E F k j).length cv _ rfl rfl p' 1 1 _ rfl HRA.out (one_encI _) (by omega) (by omega) ?_; intro qv' cv' w5 S' hsz; have z0 := (S'.blk 4 rfl).cell 0; have z1 := (S'.blk 4 rfl).cell 1; have z2 := (S'.blk 4 rfl).cell 2; have z3 := (S'.blk 4 rfl).cell 3; have zf0 := (S'.blk 4 rfl).frozen 0; have zf1 := (S'.blk 4 rfl).frozen 1; have zf2 := (S'.blk 4 rfl).frozen 2; have zf3 := (S'.blk 4 rfl).frozen 3; have zz := (S'.blk 4 rfl).lt; have zg0 := (S'.blk 6 rfl).cell 0; have zg1 := (S'.blk 6 rfl).cell 1; have zgz := (S'.blk 6 rfl).lt; have ze1 := S'.ext.cell (HE.out.cE hlj); have ze2 := S'.ext.cell (HE.out.cE2 hlj); have SZ := Lib.hid (S'.set 4 rfl 3 (.slice qv' ((atQ E F k j).length + 1) cv')); clear S' hsz))
              go_roundw
              case rel => exact ⟨j + 1, qt', ct', qv', cv', by omega, by go_num, by rw [hPs.out, hQs.out, List.length_append, List.length_append, encI_append, encI_append]; exact SZ.out⟩
              case measure => simp [intOf]; omega
            · have t2 : ((nth E j).2 == (k:Int)) = false := by simpa using h2
              rw [if_neg h2] at hQs
              clear h2
              go_wp2
              obtain ⟨X, hX⟩ : ∃ X, X = wr := ⟨_, rfl⟩
              have SX := Lib.hid (hX ▸ SH.out : Sep w X _)
              rw [← hX]
              clear hX
              have y0 := (SX.out.blk 4 rfl).cell 0; have y1 := (SX.out.blk 4 rfl).cell 1; have y2 := (SX.out.blk 4 rfl).cell 2; have y3 := (SX.out.blk 4 rfl).cell 3; have yf0 := (SX.out.blk 4 rfl).frozen 0; have yf1 := (SX.out.blk 4 rfl).frozen 1; have yf2 := (SX.out.blk 4 rfl).frozen 2; have yf3 := (SX.out.blk 4 rfl).frozen 3; have yz := (SX.out.blk 4 rfl).lt; have yg0 := (SX.out.blk 6 rfl).cell 0; have yg1 := (SX.out.blk 6 rfl).cell 1; have ygz := (SX.out.blk 6 rfl).lt
              have ye1 := SX.out.ext.cell (HE.out.cE hlj)
              have ye2 := SX.out.ext.cell (HE.out.cE2 hlj)
              have u1 := fun x : ExtOf X => x.ext.cell y1
              have u2 := fun x : ExtOf X => x.ext.cell yg1
              have u3 := fun x : ExtOf X => x.ext.cell ye2
              refine wp_region_mix [true, true, true, true, true, true, true, true, false] (fun _ v W => ∃ p, v = .slice p 1 1 ∧ Rd W 1 p 1 (encI [(nth E j).2])) (by kernel_rfl) (by kernel_rfl) (by kernel_rfl) (fun _ _ _ _ hE ⟨p, h1, h2⟩ => ⟨p, h1, h2.ext hE⟩) ?_
              simp only [nfM]
              repeat (go_big_quiet_step ((fail)))
              refine wpQuiet_nil ⟨⟨fun vs W1 hE hd => ?_, trivial⟩, fun vs W1 hE hkn => ?_⟩
              · simp [putM, execOp, go_sem]
                exact ⟨Rd.oneI _ _ _, Ext.alloc (Below.refl _ _) _⟩
              obtain ⟨⟨p', hv, RA⟩, _⟩ := hkn
              have HRA := Lib.hid RA
              have SY := Lib.hid (SX.out.call hE)
              simp only [putM, hv, List.length_cons, List.length_nil, Nat.zero_add, Nat.reduceAdd, List.drop_succ_cons, List.drop_zero]
              clear u1 u2 u3 hv RA hE y0 y1 y2 y3 yf0 yf1 yf2 yf3 yz yg0 yg1 ygz ye1 ye2
              go_wp2_with (at_builtin; go_must (refine wpList_append_sep rfl _ _ _ rfl 3 i0 _ 1 8 Try.underlying38 hi0 hz0 hz1 hz2 rfl (by omega) SY.out 0 qt (atP E k j).length ct _ rfl rfl p' 1 1 _ rfl HRA.out (one_encI _) (by omega) (by omega) ?_; intro qt' ct' w5 S' hsz; have z0 := (S'.blk 4 rfl).cell 0; have z1 := (S'.blk 4 rfl).cell 1; have z2 := (S'.blk 4 rfl).cell 2; have z3 := (S'.blk 4 rfl).cell 3; have zf0 := (S'.blk 4 rfl).frozen 0; have zf1 := (S'.blk 4 rfl).frozen 1; have zf2 := (S'.blk 4 rfl).frozen 2; have zf3 := (S'.blk 4 rfl).frozen 3; have zz := (S'.blk 4 rfl).lt; have zg0 := (S'.blk 6 rfl).cell 0; have zg1 := (S'.blk 6 rfl).cell 1; have zgz := (S'.blk 6 rfl).lt; have ze1 := S'.ext.cell (HE.out.cE hlj); have ze2 := S'.ext.cell (HE.out.cE2 hlj); have SZ := Lib.hid (S'.set 4 rfl 1 (.slice qt' ((atP E k j).length + 1) ct')); clear S' hsz))
              go_roundw
              case rel => exact ⟨j + 1, qt', ct', qv, cv, by omega, by go_num, by rw [hPs.out, hQs.out, List.append_nil, List.length_append, encI_append]; exact SZ.out⟩
              case measure => simp [intOf]; omega
          · have t1 : ((nth E j).1 == (k:Int)) = false := by simpa using h1
            rw [if_neg h1] at hPs
            clear h1
            by_cases h2 : (nth E j).2 = (k:Int)
            · have t2 : ((nth E j).2 == (k:Int)) = true := by simpa using h2
              rw [if_pos h2] at hQs
              clear h2
              go_wp2
              obtain ⟨X, hX⟩ : ∃ X, X = wr := ⟨_, rfl⟩
              have SX := Lib.hid (hX ▸ SH.out : Sep w X _)
              rw [← hX]
              clear hX
              have y0 := (SX.out.blk 4 rfl).cell 0; have y1 := (SX.out.blk 4 rfl).cell 1; have y2 := (SX.out.blk 4 rfl).cell 2; have y3 := (SX.out.blk 4 rfl).cell 3; have yf0 := (SX.out.blk 4 rfl).frozen 0; have yf1 := (SX.out.blk 4 rfl).frozen 1; have yf2 := (SX.out.blk 4 rfl).frozen 2; have yf3 := (SX.out.blk 4 rfl).frozen 3; have yz := (SX.out.blk 4 rfl).lt; have yg0 := (SX.out.blk 6 rfl).cell 0; have yg1 := (SX.out.blk 6 rfl).cell 1; have ygz := (SX.out.blk 6 rfl).lt
              have ye1 := SX.out.ext.cell (HE.out.cE hlj)
              have ye2 := SX.out.ext.cell (HE.out.cE2 hlj)
              have u1 := fun x : ExtOf X => x.ext.cell y3
              have u2 := fun x : ExtOf X => x.ext.cell yg1
              have u3 := fun x : ExtOf X => x.ext.cell ye1
              refine wp_region_mix [true, true, true, true, true, true, true, true, false] (fun _ v W => ∃ p, v = .slice p 1 1 ∧ Rd W 1 p 1 (encI [(nth E j).1])) (by kernel_rfl) (by kernel_rfl) (by kernel_rfl) (fun _ _ _ _ hE ⟨p, h1, h2⟩ => ⟨p, h1, h2.ext hE⟩) ?_
              simp only [nfM]
              repeat (go_big_quiet_step ((fail)))
              refine wpQuiet_nil ⟨⟨fun vs W1 hE hd => ?_, trivial⟩, fun vs W1 hE hkn => ?_⟩
              · simp [putM, execOp, go_sem]
                exact ⟨Rd.oneI _ _ _, Ext.alloc (Below.refl _ _) _⟩
              obtain ⟨⟨p', hv, RA⟩, _⟩ := hkn
              have HRA := Lib.hid RA
              have SY := Lib.hid (SX.out.call hE)
              simp only [putM, hv, List.length_cons, List.length_nil, Nat.zero_add, Nat.reduceAdd, List.drop_succ_cons, List.drop_zero]
              clear u1 u2 u3 hv RA hE y0 y1 y2 y3 yf0 yf1 yf2 yf3 yz yg0 yg1 ygz ye1 ye2
              go_wp2_with (at_builtin; go_must (refine wpList_append_sep rfl _ _ _ rfl 3 i0 _ 1 8 Try.underlying38 hi0 hz0 hz1 hz2 rfl (by omega) SY.out 1 qv (atQ E F k j).length cv _ rfl rfl p' 1 1 _ rfl HRA.out (one_encI _) (by omega) (by omega) ?_; intro qv' cv' w5 S' hsz; have z0 := (S'.blk 4 rfl).cell 0; have z1 := (S'.blk 4 rfl).cell 1; have z2 := (S'.blk 4 rfl).cell 2; have z3 := (S'.blk 4 rfl).cell 3; have zf0 := (S'.blk 4 rfl).frozen 0; have zf1 := (S'.blk 4 rfl).frozen 1; have zf2 := (S'.blk 4 rfl).frozen 2; have zf3 := (S'.blk 4 rfl).frozen 3; have zz := (S'.blk 4 rfl).lt; have zg0 := (S'.blk 6 rfl).cell 0; have zg1 := (S'.blk 6 rfl).cell 1; have zgz := (S'.blk 6 rfl).lt; have ze1 := S'.ext.cell (HE.out.cE hlj); have ze2 := S'.ext.cell (HE.out.cE2 hlj); have SZ := Lib.hid (S'.set 4 rfl 3 (.slice qv' ((atQ E F k j).length + 1) cv')); clear S' hsz))
              go_roundw
              case rel => exact ⟨j + 1, qt, ct, qv', cv', by omega, by go_num, by rw [hPs.out, hQs.out, List.append_nil, List.length_append, encI_append]; exact SZ.out⟩
              case measure => simp [intOf]; omega
            · have t2 : ((nth E j).2 == (k:Int)) = false := by simpa using h2
              rw [if_neg h2] at hQs
              clear h2
              go_wp2
              go_roundw
              case rel => exact ⟨j + 1, qt, ct, qv, cv, by omega, by go_num, by rw [hPs.out, hQs.out, List.append_nil, List.append_nil]; exact SH.out⟩
              case measure => simp [intOf]; omega
        · obtain rfl : j = ne := by omega
          have hP := PE.out k
          have hQ := QE.out k
          rw [← L1.out] at hP hQ
          rw [hP, hQ] at S
          have a0 := (S.blk 4 rfl).cell 0; have a1 := (S.blk 4 rfl).cell 1; have a2 := (S.blk 4 rfl).cell 2; have a3 := (S.blk 4 rfl).cell 3; have af0 := (S.blk 4 rfl).frozen 0; have af1 := (S.blk 4 rfl).frozen 1; have af2 := (S.blk 4 rfl).frozen 2; have af3 := (S.blk 4 rfl).frozen 3; have az := (S.blk 4 rfl).lt; have ag0 := (S.blk 6 rfl).cell 0; have ag1 := (S.blk 6 rfl).cell 1; have agz := (S.blk 6 rfl).lt
          have SH := Lib.hid S; clear S
          go_wp2
          go_roundw
          case rel => exact ⟨k + 1, qo, co, qt, ct, qr, cr, qv, cv, by omega, by go_num, SH.out⟩
          case measure => simp [intOf]; omega
    · obtain rfl : k = n + 1 := by omega
      have d2 : decide (((n + 1 : Nat) : Int) ≤ n) = false := by simp; omega
      rw [AE.out, AF.out] at S
      have hl1 : (E.map (·.2)).length = ne := by rw [List.length_map, ← L1.out]
      have hl2 : (F.map (·.2)).length ≤ 4000 := by
        have h1 := QL.out (n + 1) 0
        rw [atQ_zero, AF.out] at h1
        have := NE.out; omega
      rw [hl1] at S
      obtain ⟨m2, hm2⟩ : ∃ m2, m2 = (F.map (·.2)).length := ⟨_, rfl⟩
      rw [← hm2] at S hl2
      clear hm2 hl1 PE QE PL QL LE LF AE AF HI NE L1
      have a0 := (S.blk 4 rfl).cell 0
      have a1 := (S.blk 4 rfl).cell 1
      have a2 := (S.blk 4 rfl).cell 2
      have a3 := (S.blk 4 rfl).cell 3
      have az := (S.blk 4 rfl).lt
      have u0 := (S.blk 5 rfl).cell 0
      have u1 := (S.blk 5 rfl).cell 1
      have u2 := (S.blk 5 rfl).cell 2
      have u3 := (S.blk 5 rfl).cell 3
      have uf0 := (S.blk 5 rfl).frozen 0
      have uf1 := (S.blk 5 rfl).frozen 1
      have uf2 := (S.blk 5 rfl).frozen 2
      have uf3 := (S.blk 5 rfl).frozen 3
      have uz := (S.blk 5 rfl).lt
      have g0 := (S.blk 6 rfl).cell 0
      have gz := (S.blk 6 rfl).lt
      have SH := Lib.hid S; clear S
      go_wp2
      have S7 := (((SH.out.set 5 rfl 0 (.slice qo0 (n + 1) co0)).set 5 rfl 1 (.slice qt0 ne ct0)).set 5 rfl 2 (.slice qr0 (n + 1) cr0)).set 5 rfl 3 (.slice qv0 m2 cv0)
      have b0 := (S7.blk 5 rfl).cell 0
      have b1 := (S7.blk 5 rfl).cell 1
      have b2 := (S7.blk 5 rfl).cell 2
      have b3 := (S7.blk 5 rfl).cell 3
      refine bodyPost_ret (v := .tuple #[.agg #[.slice qo0 (n + 1) co0, .slice qt0 ne ct0, .slice qr0 (n + 1) cr0, .slice qv0 m2 cv0], .int .i64 0]) (by simp [results, Try.results37, go_sem, b0, b1, b2, b3, Try.sizeOf52, Try.isAgg52]) rfl ⟨_, rfl, ?_, S7.ext⟩
      exact ⟨qo0, _, co0, qt0, _, ct0, qr0, _, cr0, qv0, _, cv0, rfl, S7.rd 2 rfl (by omega), S7.rd 0 rfl (by omega), S7.rd 3 rfl (by omega), S7.rd 1 rfl (by omega), own_cap (S7.own 2 rfl), own_cap (S7.own 0 rfl), own_cap (S7.own 3 rfl), own_cap (S7.own 1 rfl)⟩
theorem Mk04 (N : Int) (pe : Option Addr) (ne ce : Nat) (pw : Option Addr) (nw cw : Nat) (E : List (Int × Int)) (hs : List Hd) (W : List (List ByteArray)) (w : World) (hE : Rd w 2 pe ne (encE E)) (hW : RdW w pw nw hs W) (hz : SzW W) :
    Calls Try.prog 37 #[.agg #[.int .i64 N, .slice pe ne ce, .slice pw nw cw]] w fun e w' => ∃ v, e = .returned (.tuple #[v, .int .i64 (rC (isB N E W))]) ∧ RowsV w' v (rO (isB N E W) N.toNat E) (rT (isB N E W) E) (rO (isB N E W) N.toNat (turnE E)) (rT (isB N E W) (turnE E)) ∧ Ext w w' := by
  cases hi : isB N E W with
  | false =>
    refine (Mk04_no N pe ne ce pw nw cw E hs W w hE hW hz hi).mono ?_
    rintro e w' ⟨rfl, h⟩
    exact ⟨_, rfl, ⟨none, 0, 0, none, 0, 0, none, 0, 0, none, 0, 0, rfl, Rd.nil _ _ _, Rd.nil _ _ _, Rd.nil _ _ _, Rd.nil _ _ _, Nat.le_refl _, Nat.le_refl _, Nat.le_refl _, Nat.le_refl _⟩, h⟩
  | true =>
    have hN : 1 ≤ N := by
      unfold isB at hi
      rw [Bool.and_eq_true, Bool.and_eq_true] at hi
      exact (checkB_parts hi.1.1).1
    obtain ⟨n, rfl⟩ : ∃ n : Nat, N = (n : Int) := ⟨N.toNat, by omega⟩
    exact Mk04_yes n pe ne ce pw nw cw E hs W w hE hW hz hi
end Go.Proofs.Ytcjkechemjdboaa
namespace Go.Proofs.Ytcjkechemjdboaa
open Go Go.RowKit
theorem bigB_bad {E : List (Int × Int)} {W : List (List ByteArray)} {k : Nat} (h : W.length ≤ 250) (hk : k < W.length) (hb : badRow (nth W k) = true) : true = bigB E W := by
  unfold bigB; rw [any_true_at badRow W k hk hb]; simp [h]
theorem bigB_ok {E : List (Int × Int)} {W : List (List ByteArray)} {k : Nat} (hk : ¬ k < W.length) (ha : (W.take k).any badRow = false) : bigB E W = (decide (250 < W.length) || (decide (60 < E.length) && decide (E.length ≤ 2000)) || decide (2100 < E.length)) := by
  unfold bigB; rw [any_end badRow W k hk ha]; simp
set_option maxHeartbeats 1000000 in
theorem Big02 (N : Int) (pe : Option Addr) (ne ce : Nat) (pw : Option Addr) (nw cw : Nat) (E : List (Int × Int)) (hs : List Hd) (W : List (List ByteArray)) (w : World) (hE : Rd w 2 pe ne (encE E)) (hW : RdW w pw nw hs W) :
    Calls Try.prog 13 #[.agg #[.int .i64 N, .slice pe ne ce, .slice pw nw cw]] w fun e w' => e = .returned (.bool (bigB E W)) ∧ Ext w w' := by
  have p2 := hW.row.ptr
  have n1 := hE.small
  have n2 := hW.row.small
  have l1 := hE.nE
  have l2 := hW.nW
  have HE := Lib.hid hE; clear hE
  have HW := Lib.hid hW; clear hW
  have L1 := Lib.hid l1; clear l1
  have L2 := Lib.hid l2; clear l2
  by_cases h250 : nw ≤ 250
  · have d250 : decide ((nw : Int) ≤ 250) = true := by simp; omega
    go_enter Try.func13, Try.ntmps13
    go_wp2
    go_loopw [3, 4] (fun i _ wr => ∃ k : Nat, k ≤ nw ∧ i = .int .i64 k ∧ (W.take k).any badRow = false ∧ Ext w wr ∧ GBox wr w.heap.size N pe ne ce pw nw cw) (fun i _ _ => nw - (intOf i).toNat)
    case atStart => exact ⟨0, Nat.zero_le _, rfl, rfl, (Below.refl _ _).alloc (Nat.le_refl _) _, GBox.new _ _⟩
    case round =>
      obtain ⟨k, hk, rfl, ha, hb, gb1⟩ := hrel
      have HA := Lib.hid ha; clear ha
      have HB := Lib.hid hb; clear hb
      have G1 := Lib.hid gb1
      obtain ⟨b0, b1, b2⟩ := gb1
      by_cases hlt : k < nw
      · have g1 := HB.out.cell (HW.out.row.cH hlt)
        have q1 := (HW.out.each k hlt).ext HB.out
        have p3 := q1.ptr
        have n3 := q1.small
        have l3 := q1.nS
        have Q1 := Lib.hid q1; clear q1
        have L3 := Lib.hid l3; clear l3
        by_cases h20 : (nth hs k).n ≤ 20
        · have d20 : decide (((nth hs k).n : Int) ≤ 20) = true := by simp; omega
          go_wp2
          obtain ⟨wo, rfl⟩ : ∃ wo : World, wo = wr := ⟨_, rfl⟩
          go_loopw [4] (fun i wx => ∃ j : Nat, j ≤ (nth hs k).n ∧ i = .int .i64 j ∧ ((nth W k).take j).any longB = false ∧ Ext wo wx) (fun i _ => (nth hs k).n - (intOf i).toNat)
          case atStart => exact ⟨0, Nat.zero_le _, rfl, rfl, Below.refl _ _⟩
          case round =>
            obtain ⟨j, hj, rfl, hja, hb⟩ := hrel
            have HJ := Lib.hid hja; clear hja
            replace b0 := hb.cell b0
            replace b1 := hb.cell b1
            replace b2 := hb.cell b2
            replace g1 := hb.cell g1
            replace G1 := Lib.hid (G1.out.ext hb)
            replace HB := Lib.hid (Ext.trans HB.out hb)
            replace Q1 := Lib.hid (Q1.out.ext hb)
            have HX := Lib.hid hb; clear hb
            by_cases hjt : j < (nth hs k).n
            · have g3 := Q1.out.cS hjt
              by_cases h50 : 50 < (nth (nth W k) j).size
              · go_wp2
                go_ret
                exact ⟨ret_bool (bigB_bad (by rw [← L2.out]; exact h250) (by rw [← L2.out]; exact hlt) (by unfold badRow; rw [any_true_at longB (nth W k) j (by rw [← L3.out]; exact hjt) (by simp [longB, h50])]; simp)), HB.out⟩
              · go_wp2
                go_roundw
                case rel => exact ⟨j + 1, by omega, by go_num, any_step longB _ _ (by rw [← L3.out]; exact hjt) HJ.out (by simp [longB]; omega), HX.out⟩
                case measure => simp [intOf]; omega
            · have HR := Lib.hid (any_end longB (nth W k) j (by rw [← L3.out]; exact hjt) HJ.out)
              go_wp2
              go_roundw
              case rel => exact ⟨k + 1, by omega, by go_num, any_step badRow _ _ (by rw [← L2.out]; exact hlt) HA.out (by unfold badRow; rw [HR.out, ← L3.out]; simp; omega), HB.out, G1.out⟩
              case measure => simp [intOf]; omega
        · have d20 : decide (((nth hs k).n : Int) ≤ 20) = false := by simp; omega
          have g20 : 20 < (nth hs k).n := by omega
          have HR := Lib.hid (bigB_bad (E := E) (by rw [← L2.out]; exact h250) (by rw [← L2.out]; exact hlt) (by unfold badRow; rw [← L3.out]; simp [g20]))
          go_wp2
          refine wp_loop_rounds 1 ?_
          rw [rounds_succ]
          go_wp2
          go_ret
          exact ⟨ret_bool HR.out, HB.out⟩
      · have HF := Lib.hid (bigB_ok (E := E) (by rw [← L2.out]; exact hlt) HA.out)
        by_cases c1 : 60 < ne
        · by_cases c2 : ne ≤ 2000
          · go_wp2
            go_ret
            exact ⟨ret_bool (by rw [HF.out, ← L1.out, ← L2.out]; simp [c1, c2]), HB.out⟩
          · go_wp2
            go_ret
            exact ⟨ret_bool (by rw [HF.out, ← L1.out, ← L2.out, Bool.eq_iff_iff]; simp; omega), HB.out⟩
        · go_wp2
          go_ret
          exact ⟨ret_bool (by rw [HF.out, ← L1.out, ← L2.out, Bool.eq_iff_iff]; simp; omega), HB.out⟩
  · have d250 : decide ((nw : Int) ≤ 250) = false := by simp; omega
    have g250 : 250 < nw := by omega
    have HF : Hid (bigB E W = true) := by unfold Hid bigB; rw [← L2.out]; simp [g250]
    by_cases h0 : 0 < nw
    · go_enter Try.func13, Try.ntmps13
      go_wp2
      refine wp_loop_rounds 1 ?_
      rw [rounds_succ]
      go_wp2
      go_ret
      exact ⟨ret_bool HF.out.symm, (Below.refl _ _).alloc (Nat.le_refl _) _⟩
    · omega
end Go.Proofs.Ytcjkechemjdboaa
/- The law RowsMake: a graph has just these rows, or is refused. -/
namespace Go.Proofs.Ytcjkechemjdboaa
open Go Go.RowKit
set_option maxRecDepth 100000 in
set_option maxHeartbeats 8000000 in
theorem lawRMake (N : Int) (pe : Option Addr) (ne ce : Nat) (pw : Option Addr) (nw cw : Nat) (E : List (Int × Int)) (hs : List Hd) (W : List (List ByteArray)) (w : World) (hE : Rd w 2 pe ne (encE E)) (hW : RdW w pw nw hs W) : Calls Try.prog 8 #[.agg #[.int .i64 N, .slice pe ne ce, .slice pw nw cw]] w fun e w' => e = .returned (.bool true) ∧ Ext w w' := by
  have HBig := Lib.hid (fun W1 (h : Ext w W1) => Big02 N pe ne ce pw nw cw E hs W W1 (hE.ext h) (hW.ext h))
  have S0 := Lib.hid ((Sep.start w).al #[.int .i64 N, .slice pe ne ce, .slice pw nw cw] 25 w.heap.size rfl)
  by_cases hbig : bigB E W = true
  · rw [hbig] at HBig
    clear hE hW
    go_enter Try.func8, Try.ntmps8
    go_wp2_with (go_at_call 13; go_must (refine (HBig.out _ S0.out.ext).mono ?_; rintro e w1 ⟨rfl, hb1⟩; have S1 := Lib.hid (S0.out.call hb1); clear hb1))
    go_ret
    exact ⟨rfl, S1.out.ext⟩
  · have hbig' : bigB E W = false := by simpa using hbig
    have hz := szW_of_big hbig'
    obtain ⟨l1, l2, l3⟩ := lens_of_big hbig'
    rw [hbig'] at HBig
    clear hbig hbig'
    have n1 := hE.nE
    have n2 := hW.nW
    have HOwn := Lib.hid (fun W1 (h : Ext w W1) => Own02 N pe ne ce pw nw cw E hs W W1 (hE.ext h) (hW.ext h) (by omega) (by omega) (fun l hl => Nat.le_trans (l3 l hl) (by omega)))
    have HM := Lib.hid (fun W1 (h : Ext w W1) => RMakeG N pe ne ce pw nw cw E hs W W1 (hE.ext h) (hW.ext h) hz)
    have HM2 := Lib.hid (fun po no co pq mo do' ho W1 (h1 : Rd W1 2 po no (encE E)) (h2 : RdW W1 pq mo ho W) => Mk04 N po no co pq mo do' E ho W W1 h1 h2 hz)
    have HSame2 := Lib.hid (fun po no co pq mo do' ho W1 (h3 : Rd W1 2 pe ne (encE E)) (h4 : RdW W1 pw nw hs W) (h1 : Rd W1 2 po no (encE E)) (h2 : RdW W1 pq mo ho W) => Same02 N pe ne ce pw nw cw E hs W N po no co pq mo do' E ho W W1 h3 h4 h1 h2)
    have hself : ∀ M D V, sameB M D V M D V = true := fun M D V => by simp [sameB]
    rw [hself] at HSame2
    have K0 := Lib.hid (((Kn.nil w).add (fun w => Rd w 2 pe ne (encE E)) (fun _ he => hE.ext he)).add (fun w => RdW w pw nw hs W) (fun _ he => hW.ext he))
    clear hE hW hz l3 n1 n2
    generalize rO (isB N E W) N.toNat E = O at *
    generalize rT (isB N E W) E = T at *
    generalize rO (isB N E W) N.toNat (turnE E) = R at *
    generalize rT (isB N E W) (turnE E) = U at *
    generalize rC (isB N E W) = cc at *
    go_enter Try.func8, Try.ntmps8
    go_wp2_with (first
      | (go_at_call 19; go_must (refine (HSame2.out po no co pq mo do' ho _ (K6.out.get 5 rfl) (K6.out.get 4 rfl) (K6.out.get 3 rfl) (K6.out.get 2 rfl)).mono ?_; rintro e w7 ⟨rfl, hb⟩; have S7 := Lib.hid (S6.out.call hb); clear hb))
      | (go_at_call 39; go_must (have ha := (K5.out.get 1 rfl : R4 w5 ao an at_ bn ar cn av dn O T R U); have hb4 := (K5.out.get 0 rfl : R4 w5 eo en et fn er gn ev hn O T R U); refine (Same04T ao an ak O at_ bn bk T ar cn ck R av dn dk U _ _ _ _ _ _ _ _ _ _ _ _ _ ha.o ha.t ha.r ha.v hb4.o hb4.t hb4.r hb4.v).mono ?_; rintro e w6 ⟨rfl, hb⟩; have S6 := Lib.hid (S5.out.call hb); have K6 := Lib.hid (K5.out.ext hb); have oz := (S6.out.blk 2 rfl).lt; have o0 := (S6.out.blk 2 rfl).cell 0; have o1 := (S6.out.blk 2 rfl).cell 1; have o2 := (S6.out.blk 2 rfl).cell 2; have gz := (S6.out.blk 3 rfl).lt; have g0 := (S6.out.blk 3 rfl).cell 0; have g1 := (S6.out.blk 3 rfl).cell 1; have g2 := (S6.out.blk 3 rfl).cell 2; clear hb ha hb4))
      | (go_at_call 38; go_must (refine (Told _).mono ?_; rintro e w5 ⟨rfl, hb⟩; have S5 := Lib.hid ((S4.out.al #[.slice eo en ek, .slice et fn fk, .slice er gn gk, .slice ev hn hk] 52 w4.heap.size rfl).call hb); have K5 := Lib.hid (K4.out.ext (Ext.trans (Ext.alloc (Below.refl _ _) (.cells #[.slice eo en ek, .slice et fn fk, .slice er gn gk, .slice ev hn hk] 52)) hb)); have uz := (S5.out.blk 0 rfl).lt; have u0 := (S5.out.blk 0 rfl).cell 0; have u1 := (S5.out.blk 0 rfl).cell 1; have u2 := (S5.out.blk 0 rfl).cell 2; have u3 := (S5.out.blk 0 rfl).cell 3; have yz := (S5.out.blk 1 rfl).lt; have y0 := (S5.out.blk 1 rfl).cell 0; have y1 := (S5.out.blk 1 rfl).cell 1; have y2 := (S5.out.blk 1 rfl).cell 2; have y3 := (S5.out.blk 1 rfl).cell 3; clear hb))
      | (go_at_call 37; go_must (refine (HM2.out po no co pq mo do' ho _ ((K3.out.get 2 rfl).ext (Ext.alloc (Below.refl _ _) _)) ((K3.out.get 1 rfl).ext (Ext.alloc (Below.refl _ _) _))).mono ?_; rintro e w4 ⟨vr, rfl, ⟨eo, en, ek, et, fn, fk, er, gn, gk, ev, hn, hk, rfl, g1, g2, g3, g4, _, _, _, _⟩, hb⟩; have S4 := Lib.hid ((S3.out.al #[.slice ao an ak, .slice at_ bn bk, .slice ar cn ck, .slice av dn dk] 52 w3.heap.size rfl).call hb); have K4 := Lib.hid ((K3.out.ext (Ext.trans (Ext.alloc (Below.refl _ _) (.cells #[.slice ao an ak, .slice at_ bn bk, .slice ar cn ck, .slice av dn dk] 52)) hb)).add (fun w => R4 w eo en et fn er gn ev hn O T R U) (fun _ he => (⟨g1, g2, g3, g4⟩ : R4 _ _ _ _ _ _ _ _ _ _ _ _ _).ext he)); clear hb g1 g2 g3 g4))
      | (go_at_call 36; go_must (refine (HM.out _ (S2.out.al #[.int .i64 N, .slice po no co, .slice pq mo do'] 25 w2.heap.size rfl).ext).mono ?_; rintro e w3 ⟨vr, rfl, ⟨ao, an, ak, at_, bn, bk, ar, cn, ck, av, dn, dk, rfl, g1, g2, g3, g4, _, _, _, _⟩, hb⟩; have S3 := Lib.hid ((S2.out.al #[.int .i64 N, .slice po no co, .slice pq mo do'] 25 w2.heap.size rfl).call hb); have K3 := Lib.hid ((K2.out.ext (Ext.trans (Ext.alloc (Below.refl _ _) _) hb)).add (fun w => R4 w ao an at_ bn ar cn av dn O T R U) (fun _ he => (⟨g1, g2, g3, g4⟩ : R4 _ _ _ _ _ _ _ _ _ _ _ _ _).ext he)); have nz := (S3.out.blk 0 rfl).lt; have n0 := (S3.out.blk 0 rfl).cell 0; have n1 := (S3.out.blk 0 rfl).cell 1; have n2 := (S3.out.blk 0 rfl).cell 2; clear hb g1 g2 g3 g4))
      | (go_at_call 14; have _t := S1; go_must (refine (HOwn.out _ S1.out.ext).mono ?_; rintro e w2 ⟨vo, rfl, ⟨po, no, co, pq, mo, do', ho, rfl, ro, _, rp, _⟩, hb⟩; have S2 := Lib.hid (S1.out.call hb); have K2 := Lib.hid (((K0.out.ext S2.out.ext).add (fun w => Rd w 2 po no (encE E)) (fun _ he => ro.ext he)).add (fun w => RdW w pq mo ho W) (fun _ he => rp.ext he)); have cz := (S2.out.blk 0 rfl).lt; have c0 := (S2.out.blk 0 rfl).cell 0; have c1 := (S2.out.blk 0 rfl).cell 1; have c2 := (S2.out.blk 0 rfl).cell 2; clear hb ro rp))
      | (go_at_call 13; go_must (refine (HBig.out _ S0.out.ext).mono ?_; rintro e w1 ⟨rfl, hb1⟩; have S1 := Lib.hid (S0.out.call hb1); have K1 := Lib.hid (K0.out.ext (Ext.trans (Ext.alloc (Below.refl _ _) _) hb1)); have xz := (S1.out.blk 0 rfl).lt; have x0 := (S1.out.blk 0 rfl).cell 0; have x1 := (S1.out.blk 0 rfl).cell 1; have x2 := (S1.out.blk 0 rfl).cell 2; clear hb1)))
    go_ret
    exact ⟨rfl, S7.out.ext⟩
end Go.Proofs.Ytcjkechemjdboaa
/- An argument that is a graph, opened: what its slices read. -/
namespace Go.Proofs.Ytcjkechemjdboaa
open Go Go.RowKit Go.ChangeShapes Go.WideShapes Go.ChangeAt Go.Deep Go.Joins
theorem exists_list {α : Type} [Inhabited α] {n : Nat} {p : Nat → α → Prop} (h : ∀ i, i < n → ∃ x, p i x) : ∃ l : List α, l.length = n ∧ ∀ i, i < n → p i (nth l i) := by
  induction n with
  | zero => exact ⟨[], rfl, fun i hi => by omega⟩
  | succ n ih =>
    obtain ⟨l, hl, hp⟩ := ih fun i hi => h i (by omega)
    obtain ⟨x, hx⟩ := h n (by omega)
    refine ⟨l ++ [x], by simp [hl], fun i hi => ?_⟩
    by_cases e : i = n
    · subst e
      have : nth (l ++ [x]) i = x := by subst hl; exact nth_append_new _ _
      rw [this]; exact hx
    · rw [nth_append_left _ _ _ (by omega)]; exact hp i (by omega)
theorem spot_of_cell {w : World} {a : Addr} {v : Value} (h : w.cell? a = some v) : a = ⟨a.block, a.off, none⟩ := by
  unfold World.cell? at h
  split at h
  · split at h
    · cases h
    · rename_i hs
      obtain ⟨b, o, s⟩ := a
      cases s with
      | none => rfl
      | some s => simp at hs
  · cases h
theorem Rd.of_cells {w : World} {size n : Nat} {a : Addr} {xs : List Value} (h0 : 0 < size) (hlen : xs.length = n * size) (hs : n ≤ 9223372036854775807) (hc : ∀ j, j < n * size → w.cell? (a.add j) = some (xs.getD j undef)) : Rd w size (some a) n xs := by
  rcases Nat.eq_zero_or_pos n with hn | hn
  · subst hn
    have : xs = [] := List.eq_nil_of_length_eq_zero (by simpa using hlen)
    subst this
    exact Rd.nil _ _ _
  · have h1 := hc 0 (Nat.mul_pos hn h0)
    have ha := spot_of_cell (a := a) (by simpa [Addr.add] using h1)
    refine ⟨hlen, .inr ⟨_, _, by rw [ha]⟩, hs, fun j hj => ?_⟩
    rw [← hc j hj]
    congr 1
    rw [ha, adr_some]
    by_cases hj0 : j = 0
    · subst hj0; simp [Addr.add]
    · simp [Addr.add, hj0]
section
variable {H : Type} {enc : TypeId × Value → H} {w : World} {base : Nat} {spare : Nat → Bool} {held : Bool}
theorem open_slice_fields {P : Program} {t e : TypeId} {fs : Array Field} {fuel : Nat} {cs : List Value} {x : DataW H × List MemPlace} (ht : P.underlying t = some (.slice e)) (he : P.underlying e = some (.struct fs))
    (hone : oneCellFields P fs = true) (hC : P.cellsOf e = fs.size) (h : DataW.trod enc P w base spare held fuel t cs = some x) :
    (cs = [.slice none 0 0]) ∨
    ∃ (a : Addr) (len cap : Nat), cs = [.slice (some a) len cap] ∧ len ≤ cap ∧ cap ≤ maxLen ∧
      ∀ i, i < len → ∀ (j : Nat) (f : Field), fs[j]? = some f → ∃ (v : Value) (y : DataW H × List MemPlace) (n : Nat), w.cell? (a.add (i * fs.size + j)) = some v ∧ DataW.trod enc P w base spare held n f.type [v] = some y := by
  rcases open_slice ht h with h0 | ⟨a, len, cap, m, n, D, Pl, hcs, hb, hl, hm, hmm, hx, hi⟩
  · exact .inl h0.1
  · refine .inr ⟨a, len, cap, hcs, hl, hm, fun i hil j f hj => ?_⟩
    obtain ⟨cs', hc, ht'⟩ := hi i (by rw [hmm]; split <;> omega)
    rw [hC] at hc
    obtain ⟨ys, n', hn', hy, hlen, hyl, hf⟩ := DataW.trod_struct he ht'
    obtain ⟨_, hcl, hat⟩ := World.cells?_some hc
    obtain ⟨ho, hk⟩ := hone_of hone j f hj
    have hjl : j < fs.size := (Array.getElem?_eq_some_iff.1 hj).1
    have hcell := hat j hjl
    have hv : cs'[j]? = some (cs'[j]'(by omega)) := List.getElem?_eq_getElem (by omega)
    have h1 := hf j f hj
    rw [ho, hk] at h1
    have hone' : (cs'.drop j).take 1 = [cs'[j]'(by omega)] := by
      rw [List.drop_eq_getElem_cons (by omega)]
      rfl
    rw [hone'] at h1
    have hys : ys[j]? = some (ys[j]'(by omega)) := List.getElem?_eq_getElem (by omega)
    refine ⟨_, _, _, ?_, h1.trans hys⟩
    rw [← Go.Deep.add_add, hcell, hv]
theorem open_edges {t : TypeId} {fuel : Nat} {v : Value} {x : DataW H × List MemPlace} (ht : Try.prog.underlying t = some (.slice 71)) (h : DataW.trod enc Try.prog w base spare held fuel t [v] = some x) :
    ∃ p n c E, v = .slice p n c ∧ Rd w 2 p n (encE E) := by
  rcases open_slice_fields ht Try.underlying71 (by kernel_rfl) (by kernel_rfl) h with h0 | ⟨a, len, cap, hcs, hl, hm, hi⟩
  · simp at h0; exact ⟨none, 0, 0, [], h0, Rd.nil _ _ _⟩
  · simp at hcs
    have hl2 : len ≤ 9223372036854775807 := by unfold maxLen at hm; omega
    have hE : ∀ i, i < len → ∃ e : Int × Int, w.cell? (a.add (i * 2)) = some (.int .i64 e.1) ∧ w.cell? (a.add (i * 2 + 1)) = some (.int .i64 e.2) := by
      intro i hil
      obtain ⟨v1, y1, n1, c1, t1⟩ := hi i hil 0 _ rfl
      obtain ⟨v2, y2, n2, c2, t2⟩ := hi i hil 1 _ rfl
      obtain ⟨k1, e1, _⟩ := DataW.trod_int Try.underlying3 t1
      obtain ⟨k2, e2, _⟩ := DataW.trod_int Try.underlying3 t2
      simp at e1 e2
      subst e1 e2
      exact ⟨(k1, k2), c1, c2⟩
    obtain ⟨E, hEl, hEc⟩ := exists_list hE
    refine ⟨some a, len, cap, E, hcs, Rd.of_cells (by decide) (by rw [encE_len, hEl]) hl2 fun j hj => ?_⟩
    have hd : j / 2 < len := by omega
    obtain ⟨g1, g2⟩ := encE_get E (j / 2) (by omega)
    obtain ⟨h1, h2⟩ := hEc (j / 2) hd
    have hm2 : j = j / 2 * 2 ∨ j = j / 2 * 2 + 1 := by omega
    rcases hm2 with e | e
    · rw [e, g1]; exact h1
    · rw [e, g2]; exact h2
theorem open_texts {t : TypeId} {fuel : Nat} {v : Value} {x : DataW H × List MemPlace} (ht : Try.prog.underlying t = some (.slice 9)) (h : DataW.trod enc Try.prog w base spare held fuel t [v] = some x) :
    ∃ p n c l, v = .slice p n c ∧ Rd w 1 p n (encS l) := by
  rcases open_slice ht h with h0 | ⟨a, len, cap, m, n, D, Pl, hcs, hb, hl, hm, hmm, hx, hi⟩
  · obtain ⟨h0, _⟩ := h0; simp at h0; exact ⟨none, 0, 0, [], h0, Rd.nil _ _ _⟩
  · simp at hcs
    have hl2 : len ≤ 9223372036854775807 := by unfold maxLen at hm; omega
    have hc1 : Try.prog.cellsOf 9 = 1 := by kernel_rfl
    rw [hc1] at hi
    have hS : ∀ i, i < len → ∃ s : ByteArray, w.cell? (a.add i) = some (.string s) := by
      intro i hil
      obtain ⟨cs', hc, ht'⟩ := hi i (by rw [hmm]; split <;> omega)
      obtain ⟨s, e1, _⟩ := DataW.trod_string Try.underlying9 ht'
      obtain ⟨_, hcl, hat⟩ := World.cells?_some hc
      have := hat 0 (by decide)
      rw [Go.Deep.add_add, Nat.mul_one, Nat.add_zero, e1] at this
      exact ⟨s, this⟩
    obtain ⟨l, hll, hlc⟩ := exists_list hS
    refine ⟨some a, len, cap, l, hcs, Rd.of_cells (by decide) (by rw [encS_len, hll, Nat.mul_one]) hl2 fun j hj => ?_⟩
    rw [encS_get l j (by omega)]
    exact hlc j (by omega)
theorem open_rows {t : TypeId} {fuel : Nat} {v : Value} {x : DataW H × List MemPlace} (ht : Try.prog.underlying t = some (.slice 35)) (h : DataW.trod enc Try.prog w base spare held fuel t [v] = some x) :
    ∃ p n c hs W, v = .slice p n c ∧ RdW w p n hs W := by
  rcases open_slice ht h with h0 | ⟨a, len, cap, m, n, D, Pl, hcs, hb, hl, hm, hmm, hx, hi⟩
  · obtain ⟨h0, _⟩ := h0; simp at h0; exact ⟨none, 0, 0, [], [], h0, rfl, Rd.nil _ _ _, fun j hj => by omega⟩
  · simp at hcs
    have hl2 : len ≤ 9223372036854775807 := by unfold maxLen at hm; omega
    have hc1 : Try.prog.cellsOf 35 = 1 := by kernel_rfl
    rw [hc1] at hi
    have hS : ∀ i, i < len → ∃ q : Hd × List ByteArray, w.cell? (a.add i) = some (.slice q.1.p q.1.n q.1.c) ∧ Rd w 1 q.1.p q.1.n (encS q.2) := by
      intro i hil
      obtain ⟨cs', hc, ht'⟩ := hi i (by rw [hmm]; split <;> omega)
      obtain ⟨_, hcl, hat⟩ := World.cells?_some hc
      match cs', hcl with
      | [u], _ =>
        obtain ⟨p, n', c', l, e1, hr⟩ := open_texts Try.underlying35 ht'
        have := hat 0 (by decide)
        rw [Go.Deep.add_add, Nat.mul_one, Nat.add_zero, e1] at this
        exact ⟨(⟨p, n', c'⟩, l), this, hr⟩
    obtain ⟨l, hll, hlc⟩ := exists_list hS
    have hm : ∀ i, i < len → nth (l.map (·.1)) i = (nth l i).1 ∧ nth (l.map (·.2)) i = (nth l i).2 := fun i hil => by
      rw [nth_eq (l := l.map (·.1)) (by rw [List.length_map]; omega), nth_eq (l := l.map (·.2)) (by rw [List.length_map]; omega), nth_eq (l := l) (by omega)]; simp
    refine ⟨some a, len, cap, l.map (·.1), l.map (·.2), hcs, by simp, Rd.of_cells (by decide) (by rw [encH_len, List.length_map, hll, Nat.mul_one]) hl2 fun j hj => ?_, fun j hj => ?_⟩
    · rw [encH_get _ j (by simp; omega), (hm j (by omega)).1]
      exact (hlc j (by omega)).1
    · rw [(hm j hj).1, (hm j hj).2]
      exact (hlc j hj).2
set_option maxRecDepth 100000 in
/-- a graph by value -/
theorem open_graph {r : Reach} {b0 : Nat} {v : Value} {d : DataW H} {p : List MemPlace} (hv : Value.okWide Try.prog w r b0 25 v) (h : DataW.Trod enc Try.prog w base spare held 25 v d p) :
    ∃ N pe ne ce pw nw cw E hs W, v = .agg #[.int .i64 N, .slice pe ne ce, .slice pw nw cw] ∧ Rd w 2 pe ne (encE E) ∧ RdW w pw nw hs W := by
  obtain ⟨v0, v1, v2, y0, y1, y2, n, rfl, _, _, t0, t1, t2⟩ := open_agg3 Try.underlying25 (by kernel_rfl) (by kernel_rfl) hv h
  obtain ⟨N, e0, _⟩ := DataW.trod_int Try.underlying3 t0
  simp at e0
  subst e0
  obtain ⟨pe, ne, ce, E, rfl, hE⟩ := open_edges Try.underlying22 t1
  obtain ⟨pw, nw, cw, hs, W, rfl, hW⟩ := open_rows Try.underlying23 t2
  exact ⟨N, pe, ne, ce, pw, nw, cw, E, hs, W, rfl, hE, hW⟩
end
end Go.Proofs.Ytcjkechemjdboaa
/- The last step of a law's row: the result is true, the arguments read as they did, where the call only made memory. -/
namespace Go.Proofs.Ytcjkechemjdboaa
open Go Go.RowKit Go.WideShapes Go.ChangeShapes
theorem own : ownKnob Try.prog.godebug = none := by kernel_rfl
theorem laidOut : laidOutB Try.prog = true := by kernel_rfl
set_option maxRecDepth 100000 in
/-- true comes back, the arguments stay: what is left to show is their reading -/
theorem law_post {H : Type} {enc : TypeId × Value → H} {f : Func} {s : ChangeSpec} {apart fresh handsOn again : Bool} {W W' : World} {args : Array Value} {ds : List (DataW H)} {before : List MemPlace}
    (hW : DataW.Whole enc Try.prog f.params.toList s.vars apart W args.toList ds [] before) (ht : f.resultTypes = #[4]) (hvars : s.vars = [])
    (hfn : s.fn H (ds ++ []) = { results := [.lit (.bool true)], args := ds })
    (hargs : ∀ sp : Nat → Bool, (∀ p ∈ before, sp p.block = true) → DataW.TrodAll enc Try.prog W' 0 sp true f.params.toList args.toList ds before)
    (hb : Below W.heap.size W W') : s.post enc Try.prog f apart fresh handsOn again W args (.bool true) W' := by
  have lits : ∀ (b : Nat) (sp : Nat → Bool) (hd : Bool), DataW.TrodAll enc Try.prog W' b sp hd f.resultTypes.toList ((Value.bool true).resultList f.resultTypes.size) (s.fn H (ds ++ [])).results [] := by
    intro b sp hd
    rw [hfn, ht]
    exact trodAll_mk1 (shut_bool Try.underlying4 true)
  have hold : ∀ sp : Nat → Bool, (∀ p ∈ before, sp p.block = true) → DataW.TrodAll enc Try.prog W' 0 sp true f.params.toList args.toList (s.fn H (ds ++ [])).args before := by
    intro sp hsp
    rw [hfn]; exact hargs sp hsp
  have hv : ∀ sp : Nat → Bool, DataW.TrodVars enc Try.prog W' sp s.vars (s.fn H (ds ++ [])).vars [] := by
    intro sp; rw [hfn, hvars]; rfl
  have hin : ∀ p ∈ before, p.block < W.heap.size := fun p hp => hW.lt p hp
  have same : before = before ++ [] := by simp
  refine ⟨ds, [], before, [], before, [], hW, lits _ _ _, hold _ (fun p hp => by simpa using hin p hp), hv _, World.keptBut_mono (fun p hp => ⟨hp, .inr (by simpa using hp)⟩) (hb.frame (· ∈ before)), fun _ => ?_⟩
  have hW2 := hW
  obtain ⟨_, _, _, _, _, hz, hn⟩ := hW2
  refine ⟨ok_one (by rw [ht]) rfl (okWide_bool_mk Try.underlying4 _), _, _, ([] ++ before) ++ [], ⟨[] ++ before, [], trodAll_append (hold _ (fun _ _ => rfl)) (lits _ _ _), hv _, rfl, ?_, ?_⟩, ?_⟩
  · intro b off hp
    have hp2 : MemPlace.cell b off ∈ before := by simpa using hp
    rw [hb.frozen (hin _ hp2)]
    exact hz b off hp2
  · intro ha
    simpa using hn ha
  · intro p hp _
    simpa using hp
/-- an argument's reading, carried behind the call -/
theorem stays {H : Type} {enc : TypeId × Value → H} {W W' : World} {t : TypeId} {v : Value} {d : DataW H} {ps : List MemPlace} (hr : Try.prog.readableRec t = true) (hrow : t < Try.prog.types.size) (h : DataW.Trod enc Try.prog W 0 (fun _ => true) true t v d ps)
    (hb : Below W.heap.size W W') (hlt : ∀ x ∈ ps, x.block < W.heap.size) {sp : Nat → Bool} (hsp : ∀ x ∈ ps, sp x.block = true) : DataW.Trod enc Try.prog W' 0 sp true t v d ps :=
  WideElems.Trod_stays laidOut hr hrow h (fun x hx => hb.same (hlt x hx)) hsp
/-- all readings, one by one -/
theorem trodAll_turn {H : Type} {enc : TypeId × Value → H} {P : Program} {W W' : World} {sp sp' : Nat → Bool} {hd : Bool} (ts : List TypeId) : ∀ {vs : List Value} {ds : List (DataW H)} {ps : List MemPlace}, DataW.TrodAll enc P W 0 sp hd ts vs ds ps →
    (∀ t ∈ ts, ∀ v d p, (∀ x ∈ p, x ∈ ps) → DataW.Trod enc P W 0 sp hd t v d p → DataW.Trod enc P W' 0 sp' hd t v d p) → DataW.TrodAll enc P W' 0 sp' hd ts vs ds ps := by
  induction ts with
  | nil =>
    intro vs ds ps h _
    obtain ⟨rfl, rfl, rfl⟩ := trodAll_nil h
    exact trodAll_mk0
  | cons t ts ih =>
    intro vs ds ps h hk
    obtain ⟨v, vs', d, ds', p, q, rfl, rfl, rfl, h1, h2⟩ := trodAll_cons h
    exact trodAll_cons_mk (hk t (by simp) v d p (fun x hx => by simp [hx]) h1) (ih h2 fun t' ht' v' d' p' hp' h' => hk t' (by simp [ht']) v' d' p' (fun x hx => by simp [hp' x hx]) h')
/-- all arguments' reading, carried behind the call -/
theorem stays_all {H : Type} {enc : TypeId × Value → H} {W W' : World} {ts : List TypeId} {vs : List Value} {ds : List (DataW H)} {ps : List MemPlace} (hr : ts.all (fun t => Try.prog.readableRec t && decide (t < Try.prog.types.size)) = true)
    (h : DataW.TrodAll enc Try.prog W 0 (fun _ => true) true ts vs ds ps) (hb : Below W.heap.size W W') (hlt : ∀ x ∈ ps, x.block < W.heap.size) {sp : Nat → Bool} (hsp : ∀ x ∈ ps, sp x.block = true) : DataW.TrodAll enc Try.prog W' 0 sp true ts vs ds ps :=
  trodAll_turn ts h fun t ht v d p hp h1 => by
    have h2 := List.all_eq_true.1 hr t ht
    rw [Bool.and_eq_true, decide_eq_true_eq] at h2
    exact stays h2.1 h2.2 h1 hb (fun x hx => hlt x (hp x hx)) (fun x hx => hsp x (hp x hx))
end Go.Proofs.Ytcjkechemjdboaa
/- The reference's rows: in, row. -/
namespace Go.Proofs.Ytcjkechemjdboaa
open Go Go.RowKit
theorem In04x (p : Option Addr) (n c : Nat) (l : List Int) (x : Int) (w : World) (hl : Rd w 1 p n (encI l)) :
    Calls Try.prog 88 #[.slice p n c, .int .i64 x] w fun e w' => e = .returned (.bool (inB l x)) ∧ Ext w w' := by
  have p1 := hl.ptr
  have n1 := hl.small
  have L1 := Lib.hid hl.nI
  have HL := Lib.hid hl; clear hl
  go_enter Try.func88, Try.ntmps88
  go_wp2
  go_loop [5] (fun i => ∃ k : Nat, k ≤ n ∧ i = .int .i64 k ∧ (l.take k).any (fun y => y == x) = false) (fun i => n - (intOf i).toNat)
  case atStart => exact ⟨0, Nat.zero_le _, rfl, rfl⟩
  case round =>
    obtain ⟨k, hk, rfl, ha⟩ := hrel
    have HA := Lib.hid ha; clear ha
    by_cases hlt : k < n
    · have g1 := HL.out.cI hlt
      have d1 : (0:Int) ≤ k := by omega
      have d2 : (k:Int) < n := by omega
      have hkL : k < l.length := by rw [← L1.out]; exact hlt
      cases hq : (nth l k == x) with
      | true =>
        have HF : Hid (inB l x = true) := any_true_at (fun y : Int => y == x) l k hkL hq
        go_wp2
        go_ret
        exact ⟨ret_bool HF.out.symm, Below.refl _ _⟩
      | false =>
        have HF := Lib.hid (any_step (fun y : Int => y == x) l k hkL HA.out hq)
        go_wp2
        go_round
        case rel => exact ⟨k + 1, by omega, by go_num, HF.out⟩
        case measure => simp [intOf]; omega
    · have HF : Hid (inB l x = false) := any_end (fun y : Int => y == x) l k (by rw [← L1.out]; exact hlt) HA.out
      go_wp2
      go_ret
      exact ⟨ret_bool HF.out.symm, Below.refl _ _⟩
set_option maxRecDepth 100000 in
set_option maxHeartbeats 2000000 in
theorem row04 (po : Option Addr) (no co : Nat) (O : List Int) (pt : Option Addr) (nt ct : Nat) (T : List Int) (k : Nat) (w : World) (hO : Rd w 1 po no (encI O)) (hT : Rd w 1 pt nt (encI T)) (hct : nt ≤ ct) (hok : OffOk O T) (hk1 : k + 1 < O.length) (hlen : T.length ≤ 100000) :
    Calls Try.prog 86 #[.slice po no co, .slice pt nt ct, .int .i64 k] w fun e w' => ∃ q c, e = .returned (.slice q (rowL O T k).length c) ∧ Sep w w' [.own 3 1 q (rowL O T k).length c (encI (rowL O T k))] := by
  have na1 := hO.small
  have l1 := hO.nI
  have l2 := hT.nI
  have pA := hO.ptr
  have q1 := hok.lo k (by omega)
  have q2 := hok.le k hk1
  have q3 := hok.hi (k + 1) hk1
  have hrl := rowL_len hok hk1
  have RL0 := hT.rowOf hok hct hk1
  have g1 := hO.cI (k := k) (by omega)
  have g2 := hO.cI (k := k + 1) (by omega)
  obtain ⟨a, ha⟩ : ∃ a : Nat, nth O k = (a : Int) := ⟨(nth O k).toNat, by omega⟩
  obtain ⟨c, hc⟩ : ∃ c : Nat, nth O (k + 1) = (c : Int) := ⟨(nth O (k + 1)).toNat, by omega⟩
  rw [ha] at q1 q2 hrl RL0 g1
  rw [hc] at q2 q3 hrl RL0 g2
  simp only [Int.toNat_natCast] at hrl RL0
  have hq3 : (c:Int) ≤ ct := by omega
  have HLEN : Hid (c - a ≤ 1000000) := by unfold Hid; omega
  have d1 : (0:Int) ≤ k := by omega
  have d2 : (k:Int) < no := by omega
  have d3 : (0:Int) ≤ (k:Int) + 1 := by omega
  have d4 : (k:Int) + 1 < no := by omega
  have HRL := Lib.hid hrl
  have RL := Lib.hid RL0
  clear hO hT hok ha hc hrl RL0 hlen l1 l2 q3 hk1
  rw [HRL.out]
  go_enter Try.func86, Try.ntmps86
  go_wp2
  have x1 := fun x : ExtOf w => x.ext.cell g1
  have x2 := fun x : ExtOf w => x.ext.cell g2
  refine wp_region_mix [true, true, true, true, true, true, true, true, true, true, true, false] (fun _ u W => ∃ q d, u = .slice q (c - a) d ∧ W.ownsRow w.heap.size 3 1 (.slice q (c - a) d) (c - a) (encI (rowL O T k))) (by kernel_rfl) (by kernel_rfl) (by kernel_rfl) (fun _ _ _ _ hE ⟨p, d, h1, h2⟩ => ⟨p, d, h1, hE.own h2⟩) ?_
  simp only [nfM]
  repeat (go_big_quiet_step ((fail)))
  refine wpQuiet_nil ⟨⟨fun vs W hE hd => ?_, trivial⟩, fun vs W hE hkn => ?_⟩
  · simp [putM, execOp, go_sem]
    exact (OwnI01 _ (c - a) _ (rowL O T k) W (RL.out.ext hE) HLEN.out).mono fun e w' ⟨q, d, h1, S⟩ => ⟨_, h1, ⟨q, d, rfl, own_base (S.own 0 rfl) hE.size⟩, S.ext⟩
  · obtain ⟨⟨q, d, hv, hown⟩, _⟩ := hkn
    have S5 := Lib.hid ((Sep.start w).fresh hE hown (Nat.le_refl _))
    simp only [putM, hv, List.length_cons, List.length_nil, Nat.zero_add, Nat.reduceAdd, List.drop_succ_cons, List.drop_zero]
    clear x1 x2 g1 g2 hv hown hE
    go_wp2
    go_ret
    exact ⟨q, d, rfl, S5.out⟩
end Go.Proofs.Ytcjkechemjdboaa
/- The reference's half: offsets and numbers that are right by themselves. -/
namespace Go.Proofs.Ytcjkechemjdboaa
open Go Go.RowKit
theorem halfB_no1 {O T : List Int} (h : ¬ (2 ≤ O.length ∧ O.length ≤ 201 ∧ T.length ≤ 2000 ∧ nth O 0 = 0 ∧ nth O (O.length - 1) = T.length ∧ sortB O = true)) : halfB O T = false := by
  cases h1 : halfB O T with
  | false => rfl
  | true => exact absurd (offB_parts (by unfold halfB at h1; rw [Bool.and_eq_true] at h1; exact h1.1)) h
theorem halfB_no2 {O T : List Int} {v : Nat} (hv : v < O.length - 1) (h : okRow ((O.length - 1 : Nat) : Int) (rowL O T v) = false) : halfB O T = false := by
  unfold halfB
  rw [range_all_no _ _ v hv h, Bool.and_false]
set_option maxRecDepth 100000 in
set_option maxHeartbeats 8000000 in
theorem half04 (po : Option Addr) (no co : Nat) (O : List Int) (pt : Option Addr) (nt ct : Nat) (T : List Int) (w : World) (hO : Rd w 1 po no (encI O)) (hT : Rd w 1 pt nt (encI T)) : Calls Try.prog 87 #[.slice po no co, .slice pt nt ct] w fun e w' => e = .returned (.bool (halfB O T)) ∧ Ext w w' := by
  have pO := hO.ptr
  have pT := hT.ptr
  have n1 := hO.small
  have n2 := hT.small
  have l1 := Lib.hid hO.nI
  have l2 := Lib.hid hT.nI
  have HNO := Lib.hid (fun h => halfB_no1 (O := O) (T := T) h)
  by_cases h1 : no < 2
  · have d1 : decide ((no:Int) < 2) = true := by simp; omega
    have HF : Hid (halfB O T = false) := HNO.out (by rw [← l1.out]; omega)
    clear hO hT
    go_enter Try.func87, Try.ntmps87
    go_wp2
    go_ret
    exact ⟨ret_bool HF.out.symm, Below.refl _ _⟩
  · have d1 : decide ((no:Int) < 2) = false := by simp; omega
    by_cases h2 : 201 < no
    · have d2 : decide ((201:Int) < no) = true := by simp; omega
      have HF : Hid (halfB O T = false) := HNO.out (by rw [← l1.out]; omega)
      clear hO hT
      go_enter Try.func87, Try.ntmps87
      go_wp2
      go_ret
      exact ⟨ret_bool HF.out.symm, Below.refl _ _⟩
    · have d2 : decide ((201:Int) < no) = false := by simp; omega
      have g0 := hO.cI (k := 0) (by omega)
      have q1 : (0:Int) < no := by omega
      have g5 := hO.cI (k := no - 1) (by omega)
      have q2 : (0:Int) ≤ (no:Int) - 1 := by omega
      have q2b : (1:Int) ≤ (no:Int) := by omega
      have q3 : (no:Int) - 1 < no := by omega
      by_cases h4 : nth O 0 = 0
      · have d4 : (nth O 0 != 0) = false := by simpa using h4
        by_cases h5 : nth O (no - 1) = nt
        · have d5 : (nth O (no - 1) != (nt:Int)) = false := by simpa using h5
          by_cases h3 : 2000 < nt
          · have d3 : decide ((2000:Int) < nt) = true := by simp; omega
            have HF : Hid (halfB O T = false) := HNO.out (by rw [← l2.out]; omega)
            clear hO hT
            go_enter Try.func87, Try.ntmps87
            go_wp2
            go_ret
            exact ⟨ret_bool HF.out.symm, Below.refl _ _⟩
          · have d3 : decide ((2000:Int) < nt) = false := by simp; omega
            have HOFF : Hid (sortB O = true → offB O T = true) := fun h6 => by
              unfold offB
              rw [h6, h4]
              rw [← l1.out, ← l2.out, h5]
              simp; omega
            have HO := Lib.hid hO; clear hO
            have HT := Lib.hid hT; clear hT
            have h4' := Lib.hid h4
            have h5' := Lib.hid h5
            clear h4 h5
            go_enter Try.func87, Try.ntmps87
            go_wp2
            go_loopw [5] (fun i wr => ∃ v : Nat, 1 ≤ v ∧ v ≤ no ∧ i = .int .i64 v ∧ (∀ u, u + 1 < v → nth O u ≤ nth O (u + 1)) ∧ Ext w wr) (fun i _ => no - (intOf i).toNat)
            case atStart => exact ⟨1, Nat.le_refl _, by omega, rfl, fun u hu => by omega, Below.refl _ _⟩
            case round =>
              obtain ⟨v, hv1, hv, rfl, ha, hE⟩ := hrel
              have HA := Lib.hid ha; clear ha
              by_cases hlt : v < no
              · have c1 := hE.cell (HO.out.cI hlt)
                have c0 := hE.cell (HO.out.cI (k := v - 1) (by omega))
                have e1 : (0:Int) ≤ v := by omega
                have e2 : (v:Int) < no := by omega
                have e3 : (1:Int) ≤ (v:Int) := by omega
                have e4 : (v:Int) - 1 < no := by omega
                have e5 : (0:Int) ≤ (v:Int) - 1 := by omega
                have HE := Lib.hid hE; clear hE
                by_cases hs : nth O v < nth O (v - 1)
                · have b1 : decide (nth O v < nth O (v - 1)) = true := by simpa using hs
                  have HF : Hid (halfB O T = false) := HNO.out (fun h => by
                    have := sortB_at h.2.2.2.2.2 (v := v - 1) (by rw [← l1.out]; omega)
                    rw [show v - 1 + 1 = v by omega] at this; omega)
                  go_wp2
                  have x1 := fun x : ExtOf wr => x.ext.cell c1
                  have x0 := fun x : ExtOf wr => x.ext.cell c0
                  refine wp_region_ext (by kernel_rfl) (by kernel_rfl) ?_
                  repeat (go_big_quiet_step ((fail)))
                  refine wpQuiet_nil ?_
                  rintro w1 ⟨⟨_, hb1⟩, rfl⟩
                  go_wp2
                  go_ret
                  exact ⟨ret_bool HF.out.symm, Ext.trans HE.out hb1⟩
                · have b1 : decide (nth O v < nth O (v - 1)) = false := by simpa using hs
                  go_wp2
                  have x1 := fun x : ExtOf wr => x.ext.cell c1
                  have x0 := fun x : ExtOf wr => x.ext.cell c0
                  refine wp_region_ext (by kernel_rfl) (by kernel_rfl) ?_
                  repeat (go_big_quiet_step ((fail)))
                  refine wpQuiet_nil ?_
                  rintro w1 ⟨⟨_, hb1⟩, rfl⟩
                  go_wp2
                  go_roundw
                  case rel => exact ⟨v + 1, by omega, by omega, by go_num, fun u hu => by
                    by_cases h : u + 1 = v
                    · have : v - 1 = u := by omega
                      rw [this] at hs; rw [h]; omega
                    · exact HA.out u (by omega), Ext.trans HE.out hb1⟩
                  case measure => simp [intOf]; omega
              · have hso : sortB O = true := by
                  unfold sortB
                  rw [List.all_eq_true]
                  intro u hu
                  rw [List.mem_range] at hu
                  exact decide_eq_true (HA.out u (by have := l1.out; omega))
                have HOF := Lib.hid (HOFF.out hso)
                have HOK := Lib.hid (offOk_of HOF.out)
                clear hso HA
                have HE := Lib.hid hE; clear hE
                go_wp2
                go_loopw [6, 7] (fun i _ wr => ∃ v : Nat, 1 ≤ v ∧ v ≤ no ∧ i = .int .i64 v ∧ (∀ u, u + 1 < v → okRow ((O.length - 1 : Nat) : Int) (rowL O T u) = true) ∧ Ext w wr) (fun i _ _ => no - (intOf i).toNat)
                case atStart => exact ⟨1, Nat.le_refl _, by omega, rfl, fun u hu => by omega, HE.out⟩
                case round =>
                  clear HE hlt hv1 hv
                  obtain ⟨v, hv1, hv, rfl, ha, hE⟩ := hrel
                  have HA := Lib.hid ha; clear ha
                  by_cases hlt : v < no
                  · have hvL : v - 1 + 1 < O.length := by have := l1.out; omega
                    have q1' := HOK.out.lo (v - 1) (by omega)
                    have q2' := HOK.out.le (v - 1) hvL
                    have q3' := HOK.out.hi (v - 1 + 1) hvL
                    rw [show v - 1 + 1 = v by omega] at q2' q3'
                    have hrl := rowL_len HOK.out hvL
                    rw [show v - 1 + 1 = v by omega] at hrl
                    have c1 := hE.cell (HO.out.cI hlt)
                    have c0 := hE.cell (HO.out.cI (k := v - 1) (by omega))
                    have hnth := Lib.hid (fun j (hj : j < (rowL O T (v - 1)).length) => rowL_nth (O := O) (T := T) (v := v - 1) hj)
                    obtain ⟨a, hA⟩ : ∃ a : Nat, nth O (v - 1) = (a : Int) := ⟨(nth O (v - 1)).toNat, by omega⟩
                    obtain ⟨b, hB⟩ : ∃ b : Nat, nth O v = (b : Int) := ⟨(nth O v).toNat, by omega⟩
                    rw [hA] at c0 q1' q2' hrl hnth
                    rw [hB] at c1 q2' q3' hrl
                    simp only [Int.toNat_natCast] at hrl hnth
                    have hbn : b ≤ nt := by have := l2.out; omega
                    have hab : a ≤ b := by omega
                    have e1 : (0:Int) ≤ v := by omega
                    have e2 : (v:Int) < no := by omega
                    have e3 : (1:Int) ≤ (v:Int) := by omega
                    have e4 : (v:Int) - 1 < no := by omega
                    have e5 : (0:Int) ≤ (v:Int) - 1 := by omega
                    have hn' : ((O.length - 1 : Nat) : Int) = (no:Int) - 1 := by have := l1.out; omega
                    have HNO2 := Lib.hid (fun h => halfB_no2 (O := O) (T := T) (v := v - 1) (by omega) h)
                    have HPRE := Lib.hid (fun (h : okRow ((O.length - 1 : Nat) : Int) (rowL O T (v - 1)) = true) => (fun u (hu : u + 1 < v + 1) => by
                      by_cases h2 : u = v - 1
                      · rw [h2]; exact h
                      · exact HA.out u (by omega) : ∀ u, u + 1 < v + 1 → okRow ((O.length - 1 : Nat) : Int) (rowL O T u) = true))
                    rw [hn'] at HNO2 HPRE ⊢
                    have c1w := Lib.hid (HO.out.cI hlt)
                    have c0w := Lib.hid (HO.out.cI (k := v - 1) (by omega))
                    rw [hB] at c1w
                    rw [hA] at c0w
                    generalize rowL O T (v - 1) = l at *
                    have HRL := Lib.hid hrl
                    have HE := Lib.hid hE; clear hE
                    clear hA hB hrl q1' q2' q3' hn' hvL
                    go_wp2
                    go_loopw [7] (fun i wr => ∃ m j : Nat, m = a + j ∧ j ≤ b - a ∧ i = .int .i64 m ∧ (List.range j).all (okAt ((no:Int) - 1) l) = true ∧ Ext w wr) (fun i _ => b - (intOf i).toNat)
                    case atStart => exact ⟨a, 0, rfl, Nat.zero_le _, rfl, rfl, HE.out⟩
                    case round =>
                      clear HE c1 c0
                      obtain ⟨m, j, hm, hj, rfl, ha, hE⟩ := hrel
                      have c1 := hE.cell c1w.out
                      have c0 := hE.cell c0w.out
                      have HA' := Lib.hid ha; clear ha
                      have hm1 : a + j ≤ m := by omega
                      have hm2 : m ≤ a + j := by omega
                      by_cases hlj : j < b - a
                      · have hjl : j < l.length := by rw [HRL.out]; exact hlj
                        have t1 := hE.cell (HT.out.cI (k := m) (by omega))
                        have hx := hnth.out j hjl
                        rw [← hm] at hx
                        rw [← hx] at t1
                        clear hm
                        have f1 : (0:Int) ≤ m := by omega
                        have f2 : (m:Int) < b := by omega
                        have f3 : (m:Int) < nt := by omega
                        by_cases g1 : nth l j < 0
                        · have b1 : decide (nth l j < 0) = true := by simpa using g1
                          have HF : Hid (halfB O T = false) := HNO2.out (range_all_no _ _ j hjl (by unfold okAt; simp; omega))
                          clear hx
                          have HE := Lib.hid hE; clear hE
                          go_wp2
                          have x0 := fun x : ExtOf wr => x.ext.cell c0
                          have x1 := fun x : ExtOf wr => x.ext.cell t1
                          refine wp_region_ext (by kernel_rfl) (by kernel_rfl) ?_
                          repeat (go_big_quiet_step ((fail)))
                          refine wpQuiet_nil ?_
                          rintro w1 ⟨⟨_, hb1⟩, rfl⟩
                          go_wp2
                          go_ret
                          exact ⟨ret_bool HF.out.symm, Ext.trans HE.out hb1⟩
                        · have b1 : decide (nth l j < 0) = false := by simpa using g1
                          by_cases g2 : (no:Int) - 1 ≤ nth l j
                          · have b2 : decide ((no:Int) - 1 ≤ nth l j) = true := by simpa using g2
                            have HF : Hid (halfB O T = false) := HNO2.out (range_all_no _ _ j hjl (by unfold okAt; simp; omega))
                            clear hx
                            have HE := Lib.hid hE; clear hE
                            go_wp2
                            have x0 := fun x : ExtOf wr => x.ext.cell c0
                            have x1 := fun x : ExtOf wr => x.ext.cell t1
                            refine wp_region_ext (by kernel_rfl) (by kernel_rfl) ?_
                            repeat (go_big_quiet_step ((fail)))
                            refine wpQuiet_nil ?_
                            rintro w1 ⟨⟨_, hb1⟩, rfl⟩
                            go_wp2
                            go_ret
                            exact ⟨ret_bool HF.out.symm, Ext.trans HE.out hb1⟩
                          · have b2 : decide ((no:Int) - 1 ≤ nth l j) = false := by simpa using g2
                            by_cases hj0 : j = 0
                            · have b3 : decide ((a:Int) < (m:Int)) = false := by simp; omega
                              have b3n : decide (a < m) = false := by simp; omega
                              have HK : Hid (okAt ((no:Int) - 1) l j = true) := by unfold Hid okAt; simp; omega
                              clear hx hj0
                              have HE := Lib.hid hE; clear hE
                              go_wp2
                              have x0 := fun x : ExtOf wr => x.ext.cell c0
                              have x1 := fun x : ExtOf wr => x.ext.cell t1
                              refine wp_region_ext (by kernel_rfl) (by kernel_rfl) ?_
                              repeat (go_big_quiet_step ((fail)))
                              refine wpQuiet_nil ?_
                              rintro w1 ⟨⟨_, hb1⟩, rfl⟩
                              go_wp2
                              go_roundw
                              case rel => exact ⟨m + 1, j + 1, by omega, by omega, by go_num, range_all_succ _ _ HA'.out HK.out, Ext.trans HE.out hb1⟩
                              case measure => simp [intOf]; omega
                            · have b3 : decide ((a:Int) < (m:Int)) = true := by simp; omega
                              have b3n : decide (a < m) = true := by simp; omega
                              have t0 := hE.cell (HT.out.cI (k := m - 1) (by omega))
                              have hy := hnth.out (j - 1) (by omega)
                              rw [show a + (j - 1) = m - 1 by omega] at hy
                              rw [← hy] at t0
                              have f4 : (1:Int) ≤ (m:Int) := by omega
                              have f5 : (m:Int) - 1 < nt := by omega
                              have f6 : (0:Int) ≤ (m:Int) - 1 := by omega
                              by_cases g3 : nth l j ≤ nth l (j - 1)
                              · have b4 : decide (nth l j ≤ nth l (j - 1)) = true := by simpa using g3
                                have HF : Hid (halfB O T = false) := HNO2.out (range_all_no _ _ j hjl (by unfold okAt; simp; omega))
                                clear hx hy
                                have HE := Lib.hid hE; clear hE
                                go_wp2
                                have x0 := fun x : ExtOf wr => x.ext.cell c0
                                have x1 := fun x : ExtOf wr => x.ext.cell t1
                                have x2 := fun x : ExtOf wr => x.ext.cell t0
                                refine wp_region_ext (by kernel_rfl) (by kernel_rfl) ?_
                                repeat (go_big_quiet_step ((fail)))
                                refine wpQuiet_nil ?_
                                rintro w1 ⟨⟨_, hb1⟩, rfl⟩
                                go_wp2
                                go_ret
                                exact ⟨ret_bool HF.out.symm, Ext.trans HE.out hb1⟩
                              · have b4 : decide (nth l j ≤ nth l (j - 1)) = false := by simpa using g3
                                have HK : Hid (okAt ((no:Int) - 1) l j = true) := by unfold Hid okAt; simp; omega
                                clear hx hy
                                have HE := Lib.hid hE; clear hE
                                go_wp2
                                have x0 := fun x : ExtOf wr => x.ext.cell c0
                                have x1 := fun x : ExtOf wr => x.ext.cell t1
                                have x2 := fun x : ExtOf wr => x.ext.cell t0
                                refine wp_region_ext (by kernel_rfl) (by kernel_rfl) ?_
                                repeat (go_big_quiet_step ((fail)))
                                refine wpQuiet_nil ?_
                                rintro w1 ⟨⟨_, hb1⟩, rfl⟩
                                go_wp2
                                go_roundw
                                case rel => exact ⟨m + 1, j + 1, by omega, by omega, by go_num, range_all_succ _ _ HA'.out HK.out, Ext.trans HE.out hb1⟩
                                case measure => simp [intOf]; omega
                      · clear hm
                        have HOKR : Hid (okRow ((no:Int) - 1) l = true) := by unfold Hid okRow; rw [HRL.out, show b - a = j by omega]; exact HA'.out
                        have f2 : decide ((m:Int) < b) = false := by simp; omega
                        have f2n : decide (m < b) = false := by simp; omega
                        have HE := Lib.hid hE; clear hE
                        go_wp2
                        go_roundw
                        case rel => exact ⟨v + 1, by omega, by omega, by go_num, HPRE.out HOKR.out, HE.out⟩
                        case measure => simp [intOf]; omega
                  · have HF : Hid (halfB O T = true) := by
                      unfold Hid halfB
                      rw [HOF.out, Bool.true_and, List.all_eq_true]
                      intro u hu
                      rw [List.mem_range] at hu
                      exact HA.out u (by have := l1.out; omega)
                    have HE := Lib.hid hE; clear hE
                    go_wp2
                    go_ret
                    exact ⟨ret_bool HF.out.symm, HE.out⟩
        · have d5 : (nth O (no - 1) != (nt:Int)) = true := by simpa using h5
          have HF : Hid (halfB O T = false) := HNO.out (by rw [← l1.out, ← l2.out]; exact fun h => h5 h.2.2.2.2.1)
          clear h4 h5
          clear hO hT
          go_enter Try.func87, Try.ntmps87
          go_wp2
          go_ret
          exact ⟨ret_bool HF.out.symm, Below.refl _ _⟩
      · have d4 : (nth O 0 != 0) = true := by simpa using h4
        have HF : Hid (halfB O T = false) := HNO.out (fun h => h4 h.2.2.2.1)
        clear h4
        clear hO hT
        go_enter Try.func87, Try.ntmps87
        go_wp2
        go_ret
        exact ⟨ret_bool HF.out.symm, Below.refl _ _⟩
end Go.Proofs.Ytcjkechemjdboaa
/- The reference's Check of rows. -/
namespace Go.Proofs.Ytcjkechemjdboaa
open Go Go.RowKit
set_option maxRecDepth 100000 in
set_option maxHeartbeats 4000000 in
theorem Check04_no (po : Option Addr) (no co : Nat) (O : List Int) (pt : Option Addr) (nt ct : Nat) (T : List Int) (pr : Option Addr) (nr cr : Nat) (R : List Int) (pv : Option Addr) (nv cv : Nat) (V : List Int) (w : World) (hO : Rd w 1 po no (encI O)) (hT : Rd w 1 pt nt (encI T)) (hR : Rd w 1 pr nr (encI R)) (hV : Rd w 1 pv nv (encI V)) (hct : nt ≤ ct) (hcv : nv ≤ cv) (h : no ≠ nr ∨ nt ≠ nv ∨ halfB O T = false ∨ halfB R V = false) :
    Calls Try.prog 54 #[.agg #[.slice po no co, .slice pt nt ct, .slice pr nr cr, .slice pv nv cv]] w fun e w' => e = .returned (.bool false) ∧ Ext w w' := by
  have S0 := Lib.hid ((Sep.start w).al #[.slice po no co, .slice pt nt ct, .slice pr nr cr, .slice pv nv cv] 52 w.heap.size rfl)
  have HH1 := Lib.hid (fun W1 (h : Ext w W1) => half04 po no co O pt nt ct T W1 (hO.ext h) (hT.ext h))
  have HH2 := Lib.hid (fun W1 (h : Ext w W1) => half04 pr nr cr R pv nv cv V W1 (hR.ext h) (hV.ext h))
  clear hO hT hR hV
  by_cases h1 : no = nr
  · have d1 : ((no:Int) != (nr:Int)) = false := by simp; omega
    cases h3 : halfB O T with
    | false =>
      rw [h3] at HH1
      clear h h1 h3
      go_enter Try.func54, Try.ntmps54
      go_wp2_with (go_at_call 87; go_must (refine (HH1.out _ S0.out.ext).mono ?_; rintro e w1 ⟨rfl, hb⟩; have S1 := Lib.hid (S0.out.call hb); have az := (S1.out.blk 0 rfl).lt; have a0 := (S1.out.blk 0 rfl).cell 0; have a1 := (S1.out.blk 0 rfl).cell 1; have a2 := (S1.out.blk 0 rfl).cell 2; have a3 := (S1.out.blk 0 rfl).cell 3; clear hb))
      go_ret
      exact ⟨rfl, S1.out.ext⟩
    | true =>
      rw [h3] at HH1
      cases h4 : halfB R V with
      | false =>
        rw [h4] at HH2
        clear h h1 h3 h4
        go_enter Try.func54, Try.ntmps54
        go_wp2_with (first | (go_at_call 87; have _t := S1; go_must (refine (HH2.out _ S1.out.ext).mono ?_; rintro e w2 ⟨rfl, hb⟩; have S2 := Lib.hid (S1.out.call hb); have bz := (S2.out.blk 0 rfl).lt; have b0 := (S2.out.blk 0 rfl).cell 0; have b1 := (S2.out.blk 0 rfl).cell 1; have b2 := (S2.out.blk 0 rfl).cell 2; have b3 := (S2.out.blk 0 rfl).cell 3; clear hb)) | (go_at_call 87; go_must (refine (HH1.out _ S0.out.ext).mono ?_; rintro e w1 ⟨rfl, hb⟩; have S1 := Lib.hid (S0.out.call hb); have az := (S1.out.blk 0 rfl).lt; have a0 := (S1.out.blk 0 rfl).cell 0; have a1 := (S1.out.blk 0 rfl).cell 1; have a2 := (S1.out.blk 0 rfl).cell 2; have a3 := (S1.out.blk 0 rfl).cell 3; clear hb)))
        go_ret
        exact ⟨rfl, S2.out.ext⟩
      | true =>
        rw [h4] at HH2
        have d2 : ((nt:Int) != (nv:Int)) = true := by
          rcases h with h | h | h | h
          · exact absurd h1 h
          · simp; omega
          · rw [h3] at h; cases h
          · rw [h4] at h; cases h
        clear h h1 h3 h4
        go_enter Try.func54, Try.ntmps54
        go_wp2_with (first | (go_at_call 87; have _t := S1; go_must (refine (HH2.out _ S1.out.ext).mono ?_; rintro e w2 ⟨rfl, hb⟩; have S2 := Lib.hid (S1.out.call hb); have bz := (S2.out.blk 0 rfl).lt; have b0 := (S2.out.blk 0 rfl).cell 0; have b1 := (S2.out.blk 0 rfl).cell 1; have b2 := (S2.out.blk 0 rfl).cell 2; have b3 := (S2.out.blk 0 rfl).cell 3; clear hb)) | (go_at_call 87; go_must (refine (HH1.out _ S0.out.ext).mono ?_; rintro e w1 ⟨rfl, hb⟩; have S1 := Lib.hid (S0.out.call hb); have az := (S1.out.blk 0 rfl).lt; have a0 := (S1.out.blk 0 rfl).cell 0; have a1 := (S1.out.blk 0 rfl).cell 1; have a2 := (S1.out.blk 0 rfl).cell 2; have a3 := (S1.out.blk 0 rfl).cell 3; clear hb)))
        go_ret
        exact ⟨rfl, S2.out.ext⟩
  · have d1 : ((no:Int) != (nr:Int)) = true := by simp; omega
    clear h h1
    go_enter Try.func54, Try.ntmps54
    go_wp2
    go_ret
    exact ⟨rfl, S0.out.ext⟩
def ChkQ (m : List Int) (k : Int) (i : Nat) (v : Value) (W : World) : Prop :=
  match i with
  | 8 => ∃ q c, v = .slice q m.length c ∧ Rd W 1 q m.length (encI m)
  | 10 => v = .bool (inB m k)
  | _ => True
theorem ChkQ_mono {m : List Int} {k : Int} : ∀ i v W W', Ext W W' → ChkQ m k i v W → ChkQ m k i v W' := by
  intro i v W W' he h
  unfold ChkQ at *
  split at h
  · obtain ⟨q, c, h1, h2⟩ := h; exact ⟨q, c, h1, h2.ext he⟩
  · exact h
  · trivial
theorem rowX_take_all {O T R V : List Int} {k j : Nat} (hj : j < (rowL O T k).length) : ((rowX O T k).take (j + 1)).all (backB R V) = (((rowX O T k).take j).all (backB R V) && inB (rowL R V (nth (rowL O T k) j).toNat) k) := by
  rw [rowX_take hj, List.all_append]; simp [backB]
set_option maxRecDepth 100000 in
set_option maxHeartbeats 8000000 in
theorem Check04_yes (po : Option Addr) (no co : Nat) (O : List Int) (pt : Option Addr) (nt ct : Nat) (T : List Int) (pr : Option Addr) (nr cr : Nat) (R : List Int) (pv : Option Addr) (nv cv : Nat) (V : List Int) (w : World) (hO : Rd w 1 po no (encI O)) (hT : Rd w 1 pt nt (encI T)) (hR : Rd w 1 pr nr (encI R)) (hV : Rd w 1 pv nv (encI V)) (hct : nt ≤ ct) (hcv : nv ≤ cv) (e1 : no = nr) (e2 : nt = nv) (h1 : halfB O T = true) (h2 : halfB R V = true) :
    Calls Try.prog 54 #[.agg #[.slice po no co, .slice pt nt ct, .slice pr nr cr, .slice pv nv cv]] w fun e w' => e = .returned (.bool ((pairs O T).all (backB R V))) ∧ Ext w w' := by
  have l1 := hO.nI
  have l2 := hT.nI
  have l3 := hR.nI
  have l4 := hV.nI
  have n1 := hO.small
  have S0 := Lib.hid ((Sep.start w).al #[.slice po no co, .slice pt nt ct, .slice pr nr cr, .slice pv nv cv] 52 w.heap.size rfl)
  have HH1 := Lib.hid (fun W1 (h : Ext w W1) => half04 po no co O pt nt ct T W1 (hO.ext h) (hT.ext h))
  have HH2 := Lib.hid (fun W1 (h : Ext w W1) => half04 pr nr cr R pv nv cv V W1 (hR.ext h) (hV.ext h))
  rw [h1] at HH1
  rw [h2] at HH2
  have d1 : ((no:Int) != (nr:Int)) = false := by simp; omega
  have d2 : ((nt:Int) != (nv:Int)) = false := by simp; omega
  have r := offB_parts (halfB_off h1)
  have r' := offB_parts (halfB_off h2)
  have HR1 := Lib.hid (fun W1 (h : Ext w W1) k (hk : k + 1 < O.length) => row04 po no co O pt nt ct T k W1 (hO.ext h) (hT.ext h) hct (offOk_of (halfB_off h1)) hk (by omega))
  have HR2 := Lib.hid (fun W1 (h : Ext w W1) k (hk : k + 1 < R.length) => row04 pr nr cr R pv nv cv V k W1 (hR.ext h) (hV.ext h) hcv (offOk_of (halfB_off h2)) hk (by omega))
  have HPB := Lib.hid (fun x (hx : x ∈ pairs O T) => pair_bd h1 hx)
  have L1 := Lib.hid l1
  have L3 := Lib.hid l3
  have E1 := Lib.hid e1
  have rl2000 : ∀ k, (rowL O T k).length ≤ 2000 := fun k => by unfold rowL; rw [List.length_take, List.length_drop]; omega
  have ru2000 : ∀ k, (rowL R V k).length ≤ 2000 := fun k => by unfold rowL; rw [List.length_take, List.length_drop]; omega
  have RL := Lib.hid rl2000
  have RU := Lib.hid ru2000
  have no200 : no ≤ 201 := by omega
  clear hO hT hR hV h1 h2 l1 l2 l3 l4 e1 e2 r r' rl2000 ru2000
  go_enter Try.func54, Try.ntmps54
  go_wp2_with (first | (go_at_call 87; have _t := S1; go_must (refine (HH2.out _ S1.out.ext).mono ?_; rintro e w2 ⟨rfl, hb⟩; have S2 := Lib.hid (S1.out.call hb); have bz := (S2.out.blk 0 rfl).lt; have b0 := (S2.out.blk 0 rfl).cell 0; have b1 := (S2.out.blk 0 rfl).cell 1; have b2 := (S2.out.blk 0 rfl).cell 2; have b3 := (S2.out.blk 0 rfl).cell 3; clear hb)) | (go_at_call 87; go_must (refine (HH1.out _ S0.out.ext).mono ?_; rintro e w1 ⟨rfl, hb⟩; have S1 := Lib.hid (S0.out.call hb); have az := (S1.out.blk 0 rfl).lt; have a0 := (S1.out.blk 0 rfl).cell 0; have a1 := (S1.out.blk 0 rfl).cell 1; have a2 := (S1.out.blk 0 rfl).cell 2; have a3 := (S1.out.blk 0 rfl).cell 3; clear hb)))
  go_loopw [3, 4, 5] (fun v _ _ wr => ∃ k : Nat, k ≤ no - 1 ∧ v = .int .i64 k ∧ (pairsK O T k).all (backB R V) = true ∧ Sep w wr [.blk w.heap.size 52 #[.slice po no co, .slice pt nt ct, .slice pr nr cr, .slice pv nv cv]]) (fun v _ _ _ => no - 1 - (intOf v).toNat)
  case atStart => exact ⟨0, Nat.zero_le _, rfl, rfl, S2.out⟩
  case round =>
    clear S0 S1 S2
    obtain ⟨k, hk, rfl, ha, S⟩ := hrel
    have HA := Lib.hid ha; clear ha
    have az := (S.blk 0 rfl).lt; have a0 := (S.blk 0 rfl).cell 0; have a1 := (S.blk 0 rfl).cell 1; have a2 := (S.blk 0 rfl).cell 2; have a3 := (S.blk 0 rfl).cell 3
    by_cases hlt : k < no - 1
    · have hkO : k + 1 < O.length := by have := L1.out; omega
      have t1 : (k:Int) + 1 < no := by omega
      have t0 : (0:Int) ≤ k := by omega
      have HRk := Lib.hid (fun W1 (h : Ext w W1) => HR1.out W1 h k hkO)
      have rlk := RL.out k
      have hpair := Lib.hid (fun j (hj : j < (rowL O T k).length) => pairs_at (O := O) (T := T) (k := k) (by omega) hj)
      have hstep := Lib.hid (fun j (hj : j < (rowL O T k).length) => rowX_take_all (R := R) (V := V) hj)
      have hpre := Lib.hid (fun j => pairs_prefix (O := O) (T := T) (k := k) (j := j) (by omega))
      have hend : Hid ((rowX O T k).take (rowL O T k).length = rowX O T k) := by unfold Hid rowX; rw [List.take_of_length_le (by simp)]
      have hps := Lib.hid (pairsK_step O T k)
      generalize rowL O T k = l at *
      generalize rowX O T k = xs at *
      have SH := Lib.hid S; clear S
      go_wp2_with (go_at_call 86; go_must (refine (HRk.out _ SH.out.ext).mono ?_; rintro e w3 ⟨q, c, rfl, Z⟩; have P1 := Lib.hid (SH.out.comp Z); clear Z))
      go_loopw [5] (fun i wr => ∃ j : Nat, j ≤ l.length ∧ i = .int .i64 j ∧ (xs.take j).all (backB R V) = true ∧ Sep w wr [.own 3 1 q l.length c (encI l), .blk w.heap.size 52 #[.slice po no co, .slice pt nt ct, .slice pr nr cr, .slice pv nv cv]]) (fun i _ => l.length - (intOf i).toNat)
      case atStart => exact ⟨0, Nat.zero_le _, rfl, by simp, P1.out⟩
      case round =>
        clear SH P1 a0 a1 a2 a3 az
        obtain ⟨j, hj, rfl, hb, S⟩ := hrel
        have HB := Lib.hid hb; clear hb
        have az := (S.blk 1 rfl).lt; have a0 := (S.blk 1 rfl).cell 0; have a1 := (S.blk 1 rfl).cell 1; have a2 := (S.blk 1 rfl).cell 2; have a3 := (S.blk 1 rfl).cell 3
        have pq := (S.rd 0 rfl (by omega)).ptr
        by_cases hlj : j < l.length
        · have g1 := (S.rd 0 rfl (by omega)).cI hlj
          have hpb := HPB.out _ (hpair.out j hlj)
          simp only at hpb
          obtain ⟨u, hu⟩ : ∃ u : Nat, nth l j = (u : Int) := ⟨(nth l j).toNat, by omega⟩
          have huR : u + 1 < R.length := by have := L1.out; have := L3.out; have := E1.out; omega
          have HRu := Lib.hid (fun W1 (h : Ext w W1) => HR2.out W1 h u huR)
          have hst := hstep.out j hlj
          rw [HB.out, Bool.true_and, hu, Int.toNat_natCast] at hst
          have HST := Lib.hid hst
          have ruk := RU.out u
          rw [hu] at g1
          generalize rowL R V u = m at *
          have t2 : (0:Int) ≤ j := by omega
          have t3 : (j:Int) < l.length := by omega
          clear hst hpb hu
          have SH := Lib.hid S; clear S
          cases hin : inB m (k:Int) with
          | true =>
            rw [hin] at HST
            go_wp2
            have x2 := fun x : ExtOf wr => x.ext.cell a2
            have x3 := fun x : ExtOf wr => x.ext.cell a3
            have x1 := fun x : ExtOf wr => x.ext.cell g1
            refine wp_region_mix [true, true, true, true, true, true, true, true, false, true, false] (ChkQ m k) (by kernel_rfl) (by kernel_rfl) (by kernel_rfl) ChkQ_mono ?_
            simp only [nfM]
            repeat (go_big_quiet_step ((fail)))
            refine wpQuiet_nil ⟨⟨fun vs W1 hE hd => ?_, fun vs W1 hE hd => ?_, trivial⟩, fun vs W1 hE hkn => ?_⟩
            · simp [putM, execOp, go_sem]
              exact (HRu.out _ (Ext.trans SH.out.ext hE)).mono fun e w' ⟨q, c, h1, S⟩ => ⟨_, h1, ⟨q, c, rfl, S.rd 0 rfl (by omega)⟩, S.ext⟩
            · obtain ⟨q, c, e1, e2⟩ := hd 8 (by decide) rfl
              simp [putM, execOp, go_sem, e1]
              exact (In04x q _ c m k W1 e2).mono fun e w' ⟨h1, h2⟩ => ⟨_, h1, rfl, h2⟩
            obtain ⟨⟨q', c', k1, _⟩, k2, _⟩ := hkn
            have k2 : vs 10 = .bool (inB m k) := k2
            rw [hin] at k2
            have SY := Lib.hid (SH.out.call hE)
            simp only [putM, k1, k2, List.length_cons, List.length_nil, Nat.zero_add, Nat.reduceAdd, List.drop_succ_cons, List.drop_zero]
            clear x1 x2 x3 k1 k2 hE
            go_wp2
            go_roundw
            case rel => exact ⟨j + 1, by omega, by go_num, HST.out, SY.out⟩
            case measure => simp [intOf]; omega
          | false =>
            rw [hin] at HST
            have HF : Hid ((pairs O T).all (backB R V) = false) := by
              obtain ⟨t, ht⟩ := hpre.out (j + 1)
              unfold Hid
              rw [← ht, List.all_append, List.all_append, HST.out]; simp
            go_wp2
            have x2 := fun x : ExtOf wr => x.ext.cell a2
            have x3 := fun x : ExtOf wr => x.ext.cell a3
            have x1 := fun x : ExtOf wr => x.ext.cell g1
            refine wp_region_mix [true, true, true, true, true, true, true, true, false, true, false] (ChkQ m k) (by kernel_rfl) (by kernel_rfl) (by kernel_rfl) ChkQ_mono ?_
            simp only [nfM]
            repeat (go_big_quiet_step ((fail)))
            refine wpQuiet_nil ⟨⟨fun vs W1 hE hd => ?_, fun vs W1 hE hd => ?_, trivial⟩, fun vs W1 hE hkn => ?_⟩
            · simp [putM, execOp, go_sem]
              exact (HRu.out _ (Ext.trans SH.out.ext hE)).mono fun e w' ⟨q, c, h1, S⟩ => ⟨_, h1, ⟨q, c, rfl, S.rd 0 rfl (by omega)⟩, S.ext⟩
            · obtain ⟨q, c, e1, e2⟩ := hd 8 (by decide) rfl
              simp [putM, execOp, go_sem, e1]
              exact (In04x q _ c m k W1 e2).mono fun e w' ⟨h1, h2⟩ => ⟨_, h1, rfl, h2⟩
            obtain ⟨⟨q', c', k1, _⟩, k2, _⟩ := hkn
            have k2 : vs 10 = .bool (inB m k) := k2
            rw [hin] at k2
            have SY := Lib.hid (SH.out.call hE)
            simp only [putM, k1, k2, List.length_cons, List.length_nil, Nat.zero_add, Nat.reduceAdd, List.drop_succ_cons, List.drop_zero]
            clear x1 x2 x3 k1 k2 hE
            go_wp2
            go_ret
            exact ⟨ret_bool HF.out.symm, SY.out.ext⟩
        · obtain rfl : j = l.length := by omega
          have hb := HB.out
          rw [hend.out] at hb
          have HK : Hid ((pairsK O T (k + 1)).all (backB R V) = true) := by unfold Hid; rw [hps.out, List.all_append, HA.out, hb]; rfl
          clear hb
          have SH := Lib.hid S; clear S
          go_wp2
          go_roundw
          case rel => exact ⟨k + 1, by omega, by go_num, HK.out, SH.out.pick [1] (by decide) rfl⟩
          case measure => simp [intOf]; omega
    · have HF : Hid ((pairs O T).all (backB R V) = true) := by
        unfold Hid pairs
        rw [show O.length - 1 = k by have := L1.out; omega]; exact HA.out
      have t1 : decide ((k:Int) + 1 < no) = false := by simp; omega
      have SH := Lib.hid S; clear S
      go_wp2
      go_ret
      exact ⟨ret_bool HF.out.symm, SH.out.ext⟩
theorem Check04 (po : Option Addr) (no co : Nat) (O : List Int) (pt : Option Addr) (nt ct : Nat) (T : List Int) (pr : Option Addr) (nr cr : Nat) (R : List Int) (pv : Option Addr) (nv cv : Nat) (V : List Int) (w : World) (hO : Rd w 1 po no (encI O)) (hT : Rd w 1 pt nt (encI T)) (hR : Rd w 1 pr nr (encI R)) (hV : Rd w 1 pv nv (encI V)) (hct : nt ≤ ct) (hcv : nv ≤ cv) : Calls Try.prog 54 #[.agg #[.slice po no co, .slice pt nt ct, .slice pr nr cr, .slice pv nv cv]] w fun e w' => e = .returned (.bool (checkR O T R V)) ∧ Ext w w' := by
  have l1 := hO.nI
  have l2 := hT.nI
  have l3 := hR.nI
  have l4 := hV.nI
  by_cases h : no ≠ nr ∨ nt ≠ nv ∨ halfB O T = false ∨ halfB R V = false
  · rw [checkR_no (by rw [← l1, ← l2, ← l3, ← l4]; exact h)]
    exact Check04_no po no co O pt nt ct T pr nr cr R pv nv cv V w hO hT hR hV hct hcv h
  · have h1 : no = nr := by
      by_cases h1 : no = nr
      · exact h1
      · exact absurd (.inl h1) h
    have h2 : nt = nv := by
      by_cases h2 : nt = nv
      · exact h2
      · exact absurd (.inr (.inl h2)) h
    have h3 : halfB O T = true := by
      cases h3 : halfB O T with
      | true => rfl
      | false => exact absurd (.inr (.inr (.inl h3))) h
    have h4 : halfB R V = true := by
      cases h4 : halfB R V with
      | true => rfl
      | false => exact absurd (.inr (.inr (.inr h4))) h
    have : checkR O T R V = (pairs O T).all (backB R V) := by
      unfold checkR
      rw [h3, h4, ← l1, ← l2, ← l3, ← l4, h1, h2]
      simp only [decide_true, Bool.true_and]
      rfl
    rw [this]
    exact Check04_yes po no co O pt nt ct T pr nr cr R pv nv cv V w hO hT hR hV hct hcv h1 h2 h3 h4
end Go.Proofs.Ytcjkechemjdboaa
/- The reference's Out, In, Has, Own of rows. -/
namespace Go.Proofs.Ytcjkechemjdboaa
open Go Go.RowKit
set_option maxRecDepth 100000 in
set_option maxHeartbeats 4000000 in
theorem Out04 (po : Option Addr) (no co : Nat) (O : List Int) (pt : Option Addr) (nt ct : Nat) (T : List Int) (pr : Option Addr) (nr cr : Nat) (R : List Int) (pv : Option Addr) (nv cv : Nat) (V : List Int) (w : World) (v : Int) (hO : Rd w 1 po no (encI O)) (hT : Rd w 1 pt nt (encI T)) (hR : Rd w 1 pr nr (encI R)) (hV : Rd w 1 pv nv (encI V)) (hct : nt ≤ ct) (hcv : nv ≤ cv) : Calls Try.prog 49 #[.agg #[.slice po no co, .slice pt nt ct, .slice pr nr cr, .slice pv nv cv], .int .i64 v] w fun e w' => ∃ q c, e = .returned (.tuple #[.slice q (outL (checkR O T R V) O T v).length c, .bool (outB (checkR O T R V) O v)]) ∧ Sep w w' [.own 3 1 q (outL (checkR O T R V) O T v).length c (encI (outL (checkR O T R V) O T v))] := by
  have S0 := Lib.hid ((Sep.start w).al #[.slice po no co, .slice pt nt ct, .slice pr nr cr, .slice pv nv cv] 52 w.heap.size rfl)
  have HC := Lib.hid (fun W1 (h : Ext w W1) => Check04 po no co O pt nt ct T pr nr cr R pv nv cv V W1 (hO.ext h) (hT.ext h) (hR.ext h) (hV.ext h) hct hcv)
  have n1 := hO.small
  cases hck : checkR O T R V with
  | false =>
    rw [hck] at HC
    have hno : outB false O v = false := rfl
    rw [outL_no hno, hno]
    clear hO hT hR hV hck hno
    go_enter Try.func49, Try.ntmps49
    go_wp2_with (go_at_call 54; go_must (refine (HC.out _ S0.out.ext).mono ?_; rintro e w1 ⟨rfl, hb⟩; have S1 := Lib.hid (S0.out.call hb); have az := (S1.out.blk 0 rfl).lt; have a0 := (S1.out.blk 0 rfl).cell 0; have a1 := (S1.out.blk 0 rfl).cell 1; have a2 := (S1.out.blk 0 rfl).cell 2; have a3 := (S1.out.blk 0 rfl).cell 3; clear hb))
    go_ret2
    exact ⟨none, 0, rfl, ((Sep.start w).call S1.out.ext).nilrow _ _⟩
  | true =>
    rw [hck] at HC
    obtain ⟨e1, e2, e3, e4⟩ := checkR_half hck
    have r := offB_parts (halfB_off e3)
    have hof := offOk_of (halfB_off e3)
    have l1 := hO.nI
    have l2 := hT.nI
    by_cases h1 : v < 0
    · have b1 : decide (v < 0) = true := by simpa using h1
      have hno : outB true O v = false := by unfold outB; simp; omega
      rw [outL_no hno, hno]
      clear hO hT hR hV hck hno e1 e2 e3 e4 r hof l1 l2
      go_enter Try.func49, Try.ntmps49
      go_wp2_with (go_at_call 54; go_must (refine (HC.out _ S0.out.ext).mono ?_; rintro e w1 ⟨rfl, hb⟩; have S1 := Lib.hid (S0.out.call hb); have az := (S1.out.blk 0 rfl).lt; have a0 := (S1.out.blk 0 rfl).cell 0; have a1 := (S1.out.blk 0 rfl).cell 1; have a2 := (S1.out.blk 0 rfl).cell 2; have a3 := (S1.out.blk 0 rfl).cell 3; clear hb))
      go_ret2
      exact ⟨none, 0, rfl, ((Sep.start w).call S1.out.ext).nilrow _ _⟩
    · have b1 : decide (v < 0) = false := by simpa using h1
      by_cases h2 : (no:Int) - 1 ≤ v
      · have b2 : decide ((no:Int) - 1 ≤ v) = true := by simpa using h2
        have hno : outB true O v = false := by unfold outB; simp; omega
        rw [outL_no hno, hno]
        clear hO hT hR hV hck hno e1 e2 e3 e4 r hof l1 l2
        go_enter Try.func49, Try.ntmps49
        go_wp2_with (go_at_call 54; go_must (refine (HC.out _ S0.out.ext).mono ?_; rintro e w1 ⟨rfl, hb⟩; have S1 := Lib.hid (S0.out.call hb); have az := (S1.out.blk 0 rfl).lt; have a0 := (S1.out.blk 0 rfl).cell 0; have a1 := (S1.out.blk 0 rfl).cell 1; have a2 := (S1.out.blk 0 rfl).cell 2; have a3 := (S1.out.blk 0 rfl).cell 3; clear hb))
        go_ret2
        exact ⟨none, 0, rfl, ((Sep.start w).call S1.out.ext).nilrow _ _⟩
      · have b2 : decide ((no:Int) - 1 ≤ v) = false := by simpa using h2
        have hyes : outB true O v = true := by unfold outB; simp; omega
        rw [outL_yes hyes, hyes]
        obtain ⟨k, rfl⟩ : ∃ k : Nat, v = (k : Int) := ⟨v.toNat, by omega⟩
        rw [Int.toNat_natCast]
        have HR := Lib.hid (fun W1 (h : Ext w W1) => row04 po no co O pt nt ct T k W1 (hO.ext h) (hT.ext h) hct hof (by omega) (by omega))
        clear hO hT hR hV hck hyes e1 e2 e3 e4 r hof l1 l2
        go_enter Try.func49, Try.ntmps49
        go_wp2_with (first | (go_at_call 86; go_must (refine (HR.out _ S1.out.ext).mono ?_; rintro e w2 ⟨q, c, rfl, Z⟩; have S2 := Lib.hid (S1.out.comp Z); clear Z)) | (go_at_call 54; go_must (refine (HC.out _ S0.out.ext).mono ?_; rintro e w1 ⟨rfl, hb⟩; have S1 := Lib.hid (S0.out.call hb); have az := (S1.out.blk 0 rfl).lt; have a0 := (S1.out.blk 0 rfl).cell 0; have a1 := (S1.out.blk 0 rfl).cell 1; have a2 := (S1.out.blk 0 rfl).cell 2; have a3 := (S1.out.blk 0 rfl).cell 3; clear hb)))
        go_ret2
        exact ⟨q, c, rfl, S2.out.pick [0] (by decide) rfl⟩
set_option maxRecDepth 100000 in
set_option maxHeartbeats 4000000 in
theorem In04 (po : Option Addr) (no co : Nat) (O : List Int) (pt : Option Addr) (nt ct : Nat) (T : List Int) (pr : Option Addr) (nr cr : Nat) (R : List Int) (pv : Option Addr) (nv cv : Nat) (V : List Int) (w : World) (v : Int) (hO : Rd w 1 po no (encI O)) (hT : Rd w 1 pt nt (encI T)) (hR : Rd w 1 pr nr (encI R)) (hV : Rd w 1 pv nv (encI V)) (hct : nt ≤ ct) (hcv : nv ≤ cv) : Calls Try.prog 50 #[.agg #[.slice po no co, .slice pt nt ct, .slice pr nr cr, .slice pv nv cv], .int .i64 v] w fun e w' => ∃ q c, e = .returned (.tuple #[.slice q (outL (checkR O T R V) R V v).length c, .bool (outB (checkR O T R V) R v)]) ∧ Sep w w' [.own 3 1 q (outL (checkR O T R V) R V v).length c (encI (outL (checkR O T R V) R V v))] := by
  have S0 := Lib.hid ((Sep.start w).al #[.slice po no co, .slice pt nt ct, .slice pr nr cr, .slice pv nv cv] 52 w.heap.size rfl)
  have HC := Lib.hid (fun W1 (h : Ext w W1) => Check04 po no co O pt nt ct T pr nr cr R pv nv cv V W1 (hO.ext h) (hT.ext h) (hR.ext h) (hV.ext h) hct hcv)
  have n1 := hO.small
  cases hck : checkR O T R V with
  | false =>
    rw [hck] at HC
    have hno : outB false R v = false := rfl
    rw [outL_no hno, hno]
    clear hO hT hR hV hck hno
    go_enter Try.func50, Try.ntmps50
    go_wp2_with (go_at_call 54; go_must (refine (HC.out _ S0.out.ext).mono ?_; rintro e w1 ⟨rfl, hb⟩; have S1 := Lib.hid (S0.out.call hb); have az := (S1.out.blk 0 rfl).lt; have a0 := (S1.out.blk 0 rfl).cell 0; have a1 := (S1.out.blk 0 rfl).cell 1; have a2 := (S1.out.blk 0 rfl).cell 2; have a3 := (S1.out.blk 0 rfl).cell 3; clear hb))
    go_ret2
    exact ⟨none, 0, rfl, ((Sep.start w).call S1.out.ext).nilrow _ _⟩
  | true =>
    rw [hck] at HC
    obtain ⟨e1, e2, e3, e4⟩ := checkR_half hck
    have r := offB_parts (halfB_off e4)
    have hof := offOk_of (halfB_off e4)
    have l1 := hO.nI
    have l2 := hV.nI
    by_cases h1 : v < 0
    · have b1 : decide (v < 0) = true := by simpa using h1
      have hno : outB true R v = false := by unfold outB; simp; omega
      rw [outL_no hno, hno]
      clear hO hT hR hV hck hno e1 e2 e3 e4 r hof l1 l2
      go_enter Try.func50, Try.ntmps50
      go_wp2_with (go_at_call 54; go_must (refine (HC.out _ S0.out.ext).mono ?_; rintro e w1 ⟨rfl, hb⟩; have S1 := Lib.hid (S0.out.call hb); have az := (S1.out.blk 0 rfl).lt; have a0 := (S1.out.blk 0 rfl).cell 0; have a1 := (S1.out.blk 0 rfl).cell 1; have a2 := (S1.out.blk 0 rfl).cell 2; have a3 := (S1.out.blk 0 rfl).cell 3; clear hb))
      go_ret2
      exact ⟨none, 0, rfl, ((Sep.start w).call S1.out.ext).nilrow _ _⟩
    · have b1 : decide (v < 0) = false := by simpa using h1
      by_cases h2 : (no:Int) - 1 ≤ v
      · have b2 : decide ((no:Int) - 1 ≤ v) = true := by simpa using h2
        have hno : outB true R v = false := by unfold outB; simp; omega
        rw [outL_no hno, hno]
        clear hO hT hR hV hck hno e1 e2 e3 e4 r hof l1 l2
        go_enter Try.func50, Try.ntmps50
        go_wp2_with (go_at_call 54; go_must (refine (HC.out _ S0.out.ext).mono ?_; rintro e w1 ⟨rfl, hb⟩; have S1 := Lib.hid (S0.out.call hb); have az := (S1.out.blk 0 rfl).lt; have a0 := (S1.out.blk 0 rfl).cell 0; have a1 := (S1.out.blk 0 rfl).cell 1; have a2 := (S1.out.blk 0 rfl).cell 2; have a3 := (S1.out.blk 0 rfl).cell 3; clear hb))
        go_ret2
        exact ⟨none, 0, rfl, ((Sep.start w).call S1.out.ext).nilrow _ _⟩
      · have b2 : decide ((no:Int) - 1 ≤ v) = false := by simpa using h2
        have hyes : outB true R v = true := by unfold outB; simp; omega
        rw [outL_yes hyes, hyes]
        obtain ⟨k, rfl⟩ : ∃ k : Nat, v = (k : Int) := ⟨v.toNat, by omega⟩
        rw [Int.toNat_natCast]
        have HRo := Lib.hid (fun W1 (h : Ext w W1) => row04 pr nr cr R pv nv cv V k W1 (hR.ext h) (hV.ext h) hcv hof (by omega) (by omega))
        clear hO hT hR hV hck hyes e1 e2 e3 e4 r hof l1 l2
        go_enter Try.func50, Try.ntmps50
        go_wp2_with (first | (go_at_call 86; go_must (refine (HRo.out _ S1.out.ext).mono ?_; rintro e w2 ⟨q, c, rfl, Z⟩; have S2 := Lib.hid (S1.out.comp Z); clear Z)) | (go_at_call 54; go_must (refine (HC.out _ S0.out.ext).mono ?_; rintro e w1 ⟨rfl, hb⟩; have S1 := Lib.hid (S0.out.call hb); have az := (S1.out.blk 0 rfl).lt; have a0 := (S1.out.blk 0 rfl).cell 0; have a1 := (S1.out.blk 0 rfl).cell 1; have a2 := (S1.out.blk 0 rfl).cell 2; have a3 := (S1.out.blk 0 rfl).cell 3; clear hb)))
        go_ret2
        exact ⟨q, c, rfl, S2.out.pick [0] (by decide) rfl⟩
theorem Has04 (po : Option Addr) (no co : Nat) (O : List Int) (pt : Option Addr) (nt ct : Nat) (T : List Int) (pr : Option Addr) (nr cr : Nat) (R : List Int) (pv : Option Addr) (nv cv : Nat) (V : List Int) (w : World) (v u : Int) (hO : Rd w 1 po no (encI O)) (hT : Rd w 1 pt nt (encI T)) (hR : Rd w 1 pr nr (encI R)) (hV : Rd w 1 pv nv (encI V)) (hct : nt ≤ ct) (hcv : nv ≤ cv) : Calls Try.prog 55 #[.agg #[.slice po no co, .slice pt nt ct, .slice pr nr cr, .slice pv nv cv], .int .i64 v, .int .i64 u] w fun e w' => e = .returned (.bool (hasB (checkR O T R V) O T v u)) ∧ Ext w w' := by
  have S0 := Lib.hid ((Sep.start w).al #[.slice po no co, .slice pt nt ct, .slice pr nr cr, .slice pv nv cv] 52 w.heap.size rfl)
  have HR := Lib.hid (fun W1 (h : Ext w W1) => Out04 po no co O pt nt ct T pr nr cr R pv nv cv V W1 v (hO.ext h) (hT.ext h) (hR.ext h) (hV.ext h) hct hcv)
  have HL := Lib.hid (outL_len (O := O) (T := T) (R := R) (V := V) (A := O) (v := v) (B := T) (by rw [← hT.nI]; exact hT.small))
  have HB : Hid (hasB (checkR O T R V) O T v u = (outB (checkR O T R V) O v && inB (outL (checkR O T R V) O T v) u)) := rfl
  clear hO hT hR hV
  generalize outL (checkR O T R V) O T v = L at *
  cases ho : outB (checkR O T R V) O v with
  | true =>
    rw [ho] at HR HB
    clear ho
    rw [HB.out]
    go_enter Try.func55, Try.ntmps55
    go_wp2_with (first
      | (go_at_call 88; go_must (refine (In04x _ _ _ L u _ (S1.out.rd 0 rfl HL.out)).mono ?_; rintro e w2 ⟨rfl, hb⟩; have S2 := Lib.hid (S1.out.call hb); clear hb))
      | (go_at_call 49; go_must (refine (HR.out _ S0.out.ext).mono ?_; rintro e w1 ⟨q, c, rfl, T⟩; have S1 := Lib.hid (S0.out.comp T); clear T)))
    go_ret
    exact ⟨rfl, S2.out.ext⟩
  | false =>
    rw [ho] at HR HB
    clear ho
    rw [HB.out]
    go_enter Try.func55, Try.ntmps55
    go_wp2_with (go_at_call 49; go_must (refine (HR.out _ S0.out.ext).mono ?_; rintro e w1 ⟨q, c, rfl, T⟩; have S1 := Lib.hid (S0.out.comp T); clear T))
    go_ret
    exact ⟨rfl, S1.out.ext⟩
end Go.Proofs.Ytcjkechemjdboaa
/- The program's Edges of rows. -/
namespace Go.Proofs.Ytcjkechemjdboaa
open Go Go.RowKit Go.Shelf Go.Lib
attribute [local go_sem] Oper.semAt_some
def edgL (b : Bool) (O T : List Int) : List (Int × Int) := if b = true then pairs O T else []
def edgC (b : Bool) : Int := if b = true then 0 else 40
def edgPc (a b : Nat) (po : Option Addr) (no co : Nat) (pt : Option Addr) (nt ct : Nat) (cs : Array Value) (q : Option Addr) (c : Nat) (l : List (Int × Int)) : List Pc :=
  [.blk (b + 1 + 1) 38 #[.slice pt nt ct], .blk (b + 1) 38 #[.slice po no co], .blk b 22 #[.slice q l.length c], .blk a 52 cs, .own 71 2 q l.length c (encE l)]
theorem edgPc_cells (a b : Nat) (po : Option Addr) (no co : Nat) (pt : Option Addr) (nt ct : Nat) (cs : Array Value) (q : Option Addr) (c : Nat) (l : List (Int × Int)) : ∀ x ∈ edgPc a b po no co pt nt ct cs q c l, x.cells :=
  cells_all fun x hx => by simp [edgPc] at hx; rcases hx with h | h | h | h | h <;> first | exact .inl ⟨_, _, _, h⟩ | exact .inr ⟨_, _, _, _, _, _, h⟩
theorem pairs_len {O T : List Int} (h : OffOk O T) (h0 : nth O 0 = 0) : ∀ k, k < O.length → (pairsK O T k).length = (nth O k).toNat
  | 0, _ => by rw [h0]; rfl
  | k + 1, hk => by
    rw [pairsK_step, List.length_append, pairs_len h h0 k (by omega)]
    unfold rowX
    rw [List.length_map, rowL_len h hk]
    have := h.le k hk
    have := h.lo k (by omega)
    omega
set_option maxRecDepth 100000 in
set_option maxHeartbeats 4000000 in
theorem REdgesG_yes (po : Option Addr) (no co : Nat) (O : List Int) (pt : Option Addr) (nt ct : Nat) (T : List Int) (pr : Option Addr) (nr cr : Nat) (R : List Int) (pv : Option Addr) (nv cv : Nat) (V : List Int) (w : World) (hO : Rd w 1 po no (encI O)) (hT : Rd w 1 pt nt (encI T)) (hR : Rd w 1 pr nr (encI R)) (hV : Rd w 1 pv nv (encI V)) (hct : nt ≤ ct) (hcv : nv ≤ cv) (hck : checkR O T R V = true) :
    Calls Try.prog 51 #[.agg #[.slice po no co, .slice pt nt ct, .slice pr nr cr, .slice pv nv cv]] w fun e w' => ∃ q c, e = .returned (.tuple #[.slice q (pairs O T).length c, .int .i64 0]) ∧ Sep w w' [.own 71 2 q (pairs O T).length c (encE (pairs O T))] := by
  obtain ⟨i0, hi0, hz0, hz1, hz2⟩ := info_parts inf34
  have S0 := Lib.hid ((Sep.start w).al #[.slice po no co, .slice pt nt ct, .slice pr nr cr, .slice pv nv cv] 52 w.heap.size rfl)
  have HC := Lib.hid (fun W1 (h : Ext w W1) => CheckR po no co O pt nt ct T pr nr cr R pv nv cv V W1 (hO.ext h) (hT.ext h) (hR.ext h) (hV.ext h) hct hcv)
  rw [hck] at HC
  have hh := (checkR_half hck).2.2.1
  have HOK := Lib.hid (offOk_of (halfB_off hh))
  have hpl : (pairs O T).length ≤ 2000 := by
    obtain ⟨r1, r2, r3, r4, r5, r6⟩ := offB_parts (halfB_off hh)
    unfold pairs
    rw [pairs_len HOK.out r4 _ (by omega), r5]; omega
  have hO0 : 0 < no → (adr po 0).block < w.heap.size := fun h => hO.lt (by omega)
  have hT0 : 0 < nt → (adr pt 0).block < w.heap.size := fun h => hT.lt (by omega)
  have HO := Lib.hid hO; clear hO
  have HT := Lib.hid hT; clear hT
  clear hR hV hh hck
  refine (callsIn_wide (n := 9)).1 ?_
  refine callsIn_of_wp_marks Try.func51 rfl trivial ?_ rfl
  simp only [Try.ntmps51, List.size_toArray, List.length_cons, List.length_nil, Nat.reduceAdd, Nat.reduceSub, Array.replicate_succ, Array.replicate_zero, List.push_toArray, List.append_toArray, List.nil_append, List.cons_append]
  refine wpIn_wide.2 ?_
  go_wp2_with (first
    | (go_at_call 76; go_must (refine (allG po no co pt nt ct _).mono ?_; rintro e w3 ⟨rfl, hw3⟩; have S3 := (((S1.out.nilrow 71 2).al #[.slice none 0 0] 22 w1.heap.size rfl).al #[.slice po no co] 38 (w1.heap.size + 1) (by simp)).al #[.slice pt nt ct] 38 (w1.heap.size + 1 + 1) (by simp); rw [← hw3] at S3; have S4 := Lib.hid ((S3.pick [0, 1, 2, 4, 3] (by decide) rfl : Sep w w3 (edgPc w.heap.size w1.heap.size po no co pt nt ct #[.slice po no co, .slice pt nt ct, .slice pr nr cr, .slice pv nv cv] none 0 []))); clear S3 hw3))
    | (go_at_call 41; go_must (refine (HC.out _ S0.out.ext).mono ?_; rintro e w1 ⟨rfl, hb⟩; have S1 := Lib.hid (S0.out.call hb); have c0 := (S1.out.blk 0 rfl).cell 0; have c1 := (S1.out.blk 0 rfl).cell 1; have z0 := (S1.out.blk 0 rfl).lt; clear hb)))
  clear S0 S1 HC c0 c1
  generalize w1.heap.size = b at *
  refine wpIn_wide.1 (wpIn_rangeFunc_ownG (F := Fence.wide) (n := 9) rfl (by omega) (gf := 102) (lb := #[.pointer (some ⟨b + 1, 0, none⟩), .pointer (some ⟨b + 1 + 1, 0, none⟩)]) rfl trivial (enters_of Try.func102 (by kernel_rfl) rfl)
    (all_stops 8 (by omega) (b + 1) (b + 1 + 1) w.heap.size po no co pt nt ct O T w3 S4.out.ext.size (S4.out.blk 1 rfl) (S4.out.blk 0 rfl) (HO.out.ext S4.out.ext) (HT.out.ext S4.out.ext) hO0 hT0 HOK.out hct)
    (fun h k => KpA.trans h k) (kpA_b S4.out.ext.size (S4.out.blk 1 rfl).lt (S4.out.blk 0 rfl).lt) (Below.refl _ _) (fun _ => rfl)
    (fun pre W => ∃ q c, Sep w W (edgPc w.heap.size b po no co pt nt ct #[.slice po no co, .slice pt nt ct, .slice pr nr cr, .slice pv nv cv] q c (pre.map (·.1))))
    (fun _ _ _ => False)
    ?hI (fun _ _ _ _ _ hs _ _ => hs) ⟨none, 0, S4.out⟩ ?a1 ?assign ?body ?done (fun D c pre W _ _ h _ => h.elim))
  case hI => exact fun s A B row hs hg hr => hs.elim fun q h => h.elim fun c S => ⟨q, c, S.turn (edgPc_cells _ _ _ _ _ _ _ _ _ _ _ _) S4.out.ext.size hg hr⟩
  case assign =>
    intro l x W K hK
    gi_wp2
    exact hK
  case body =>
    rintro l pre ⟨⟨v, u⟩, hx⟩ W ⟨q, c, S⟩ hlen
    have hm : (pre ++ [(⟨(v, u), hx⟩ : PairOf O T)]).map (·.1) = pre.map (·.1) ++ [(v, u)] := by simp
    have HM := Lib.hid hm
    have hlm : (pre.map (·.1)).length ≤ 2000 := by rw [List.length_map]; omega
    have c4 := (S.blk 2 rfl).cell 0
    have f4 := (S.blk 2 rfl).frozen 0
    have z4 := (S.blk 2 rfl).lt
    have kE := Lib.hid (keeps_ext (Ext.alloc (Below.refl _ W) (.cells #[.int .i64 v, .int .i64 u] 71)))
    generalize pre.map (·.1) = ps at *
    have SH := Lib.hid S; clear S
    clear hm S4 HO HT hO0 hT0
    refine wpIn_block ?_
    refine wpIn_region_list (by rintro ⟨_, _, h⟩; exact h) (by kernel_rfl) ?_
    go_wp2_with (at_builtin; go_must (refine wpList_append_sepK rfl _ _ _ rfl 71 i0 _ 2 16 Try.underlying22 hi0 hz0 hz1 hz2 rfl (by omega) (SH.out.junk _) 4 q ps.length c _ rfl rfl _ 1 1 _ rfl (Rd.one2 _ _ _ _) (one_encE _) (by omega) (by omega) ?_; intro q' c' w' S' hsz hK1; have k4 := (S'.blk 2 rfl).cell 0; have kf := (S'.blk 2 rfl).frozen 0; have kz := (S'.blk 2 rfl).lt; have S5 := Lib.hid S'; have K5 := Lib.hid hK1; clear S' hsz hK1))
    have S6 := S5.out.set 2 rfl 0 (.slice q' (ps.length + 1) c')
    refine ⟨((kE.out.trans K5.out).trans (KeepsOthers.setCell _ _ _)).from _, kpA_of SH.out.ext S6.ext (Nat.le_trans kE.out.size (Nat.le_trans K5.out.size (KeepsOthers.setCell _ _ _).size)) (SH.out.blk 1 rfl) (SH.out.blk 0 rfl) (S6.blk 1 rfl) (S6.blk 0 rfl), q', c', ?_⟩
    rw [HM.out]
    unfold edgPc
    rw [List.length_append, encE_append]
    exact S6
  case done =>
    rintro D ys W hD hys ⟨q, c, S⟩ hK
    rw [hys] at S
    have c4 := (S.blk 2 rfl).cell 0
    have S' := S.putObj (edgPc_cells w.heap.size b po no co pt nt ct _ q c _) (.deferred none) (Nat.le_trans S4.out.ext.size hD) hK rfl
    have SH := Lib.hid S; clear S
    have SH' := Lib.hid S'; clear S'
    go_wp2
    refine ⟨by simp, .inl ⟨_, _, rfl, run_takeDeferred hK, ?_⟩⟩
    exact ⟨.tuple #[.slice q (pairs O T).length c, .int .i64 0], by simp [results, Try.results51, go_sem], q, c, rfl, SH'.out.pick [4] (by decide) rfl⟩
set_option maxHeartbeats 1000000 in
theorem REdgesG (po : Option Addr) (no co : Nat) (O : List Int) (pt : Option Addr) (nt ct : Nat) (T : List Int) (pr : Option Addr) (nr cr : Nat) (R : List Int) (pv : Option Addr) (nv cv : Nat) (V : List Int) (w : World) (hO : Rd w 1 po no (encI O)) (hT : Rd w 1 pt nt (encI T)) (hR : Rd w 1 pr nr (encI R)) (hV : Rd w 1 pv nv (encI V)) (hct : nt ≤ ct) (hcv : nv ≤ cv) : Calls Try.prog 51 #[.agg #[.slice po no co, .slice pt nt ct, .slice pr nr cr, .slice pv nv cv]] w fun e w' => ∃ q c, e = .returned (.tuple #[.slice q (edgL (checkR O T R V) O T).length c, .int .i64 (edgC (checkR O T R V))]) ∧ Sep w w' [.own 71 2 q (edgL (checkR O T R V) O T).length c (encE (edgL (checkR O T R V) O T))] := by
  cases hck : checkR O T R V with
  | true => exact REdgesG_yes po no co O pt nt ct T pr nr cr R pv nv cv V w hO hT hR hV hct hcv hck
  | false =>
    have S0 := Lib.hid ((Sep.start w).al #[.slice po no co, .slice pt nt ct, .slice pr nr cr, .slice pv nv cv] 52 w.heap.size rfl)
    have HC := Lib.hid (fun W1 (h : Ext w W1) => CheckR po no co O pt nt ct T pr nr cr R pv nv cv V W1 (hO.ext h) (hT.ext h) (hR.ext h) (hV.ext h) hct hcv)
    rw [hck] at HC
    clear hO hT hR hV hck
    show Calls _ _ _ _ fun e w' => ∃ q c, e = .returned (.tuple #[.slice q 0 c, .int .i64 40]) ∧ Sep w w' [.own 71 2 q 0 c []]
    go_enter Try.func51, Try.ntmps51
    go_wp2_with (go_at_call 41; go_must (refine (HC.out _ S0.out.ext).mono ?_; rintro e w1 ⟨rfl, hb⟩; have S1 := Lib.hid (S0.out.call hb); have c0 := (S1.out.blk 0 rfl).cell 0; have c1 := (S1.out.blk 0 rfl).cell 1; have z0 := (S1.out.blk 0 rfl).lt; clear hb))
    go_ret2
    exact ⟨none, 0, rfl, ((Sep.start w).call S1.out.ext).nilrow _ _⟩
end Go.Proofs.Ytcjkechemjdboaa
