/- Texts of this claim, one behind the other: Out4r, Edg4, Edg4r, OwnSm, LTell4, LHalf8, LLess8, Open, Post, Open5, Open4, LPath8. -/
import Derived.ProofKit
import Derived.Deep.Slices
import Derived.Deep.Fields
import Derived.ChangeSame
import Derived.Lib.SmallJoins
import Derived.Below
import Derived.Carry
import Derived.OpenShut
import Derived.Test.YtgnjffnkmdodeaaProg
import Derived.Test.YtgnjffnkmdodeaaQDistLessDistPath3
/- The reference's Out, In, Has, Own of rows. -/
namespace Go.Proofs.Ytgnjffnkmdodeaa
open Go Go.RowKit
set_option maxRecDepth 100000 in
set_option maxHeartbeats 4000000 in
theorem Out04 (po : Option Addr) (no co : Nat) (O : List Int) (pt : Option Addr) (nt ct : Nat) (T : List Int) (pr : Option Addr) (nr cr : Nat) (R : List Int) (pv : Option Addr) (nv cv : Nat) (V : List Int) (w : World) (v : Int) (hO : Rd w 1 po no (encI O)) (hT : Rd w 1 pt nt (encI T)) (hR : Rd w 1 pr nr (encI R)) (hV : Rd w 1 pv nv (encI V)) (hct : nt ≤ ct) (hcv : nv ≤ cv) : Calls Try.prog 10 #[.agg #[.slice po no co, .slice pt nt ct, .slice pr nr cr, .slice pv nv cv], .int .i64 v] w fun e w' => ∃ q c, e = .returned (.tuple #[.slice q (outL (checkR O T R V) O T v).length c, .bool (outB (checkR O T R V) O v)]) ∧ Sep w w' [.own 3 1 q (outL (checkR O T R V) O T v).length c (encI (outL (checkR O T R V) O T v))] := by
  have S0 := Lib.hid ((Sep.start w).al #[.slice po no co, .slice pt nt ct, .slice pr nr cr, .slice pv nv cv] 24 w.heap.size rfl)
  have HC := Lib.hid (fun W1 (h : Ext w W1) => Check04 po no co O pt nt ct T pr nr cr R pv nv cv V W1 (hO.ext h) (hT.ext h) (hR.ext h) (hV.ext h) hct hcv)
  have n1 := hO.small
  cases hck : checkR O T R V with
  | false =>
    rw [hck] at HC
    have hno : outB false O v = false := rfl
    rw [outL_no hno, hno]
    clear hO hT hR hV hck hno
    go_enter Try.func10, Try.ntmps10
    go_wp2_with (go_at_call 18; go_must (refine (HC.out _ S0.out.ext).mono ?_; rintro e w1 ⟨rfl, hb⟩; have S1 := Lib.hid (S0.out.call hb); have az := (S1.out.blk 0 rfl).lt; have a0 := (S1.out.blk 0 rfl).cell 0; have a1 := (S1.out.blk 0 rfl).cell 1; have a2 := (S1.out.blk 0 rfl).cell 2; have a3 := (S1.out.blk 0 rfl).cell 3; clear hb))
    go_ret2
    exact ⟨none, 0, rfl, ((Sep.start w).call S1.out.ext).nilrow _ _⟩
  | true =>
    rw [hck] at HC
    obtain ⟨e1, e2, e3, e4⟩ := checkR_half hck
    have r := offB_parts (halfB_off e3)
    have hof := offOk_of (halfB_off e3)
    have l1 := hO.nI
    have l2 := hT.nI
    by_cases h1 : v < 0
    · have b1 : decide (v < 0) = true := by simpa using h1
      have hno : outB true O v = false := by unfold outB; simp; omega
      rw [outL_no hno, hno]
      clear hO hT hR hV hck hno e1 e2 e3 e4 r hof l1 l2
      go_enter Try.func10, Try.ntmps10
      go_wp2_with (go_at_call 18; go_must (refine (HC.out _ S0.out.ext).mono ?_; rintro e w1 ⟨rfl, hb⟩; have S1 := Lib.hid (S0.out.call hb); have az := (S1.out.blk 0 rfl).lt; have a0 := (S1.out.blk 0 rfl).cell 0; have a1 := (S1.out.blk 0 rfl).cell 1; have a2 := (S1.out.blk 0 rfl).cell 2; have a3 := (S1.out.blk 0 rfl).cell 3; clear hb))
      go_ret2
      exact ⟨none, 0, rfl, ((Sep.start w).call S1.out.ext).nilrow _ _⟩
    · have b1 : decide (v < 0) = false := by simpa using h1
      by_cases h2 : (no:Int) - 1 ≤ v
      · have b2 : decide ((no:Int) - 1 ≤ v) = true := by simpa using h2
        have hno : outB true O v = false := by unfold outB; simp; omega
        rw [outL_no hno, hno]
        clear hO hT hR hV hck hno e1 e2 e3 e4 r hof l1 l2
        go_enter Try.func10, Try.ntmps10
        go_wp2_with (go_at_call 18; go_must (refine (HC.out _ S0.out.ext).mono ?_; rintro e w1 ⟨rfl, hb⟩; have S1 := Lib.hid (S0.out.call hb); have az := (S1.out.blk 0 rfl).lt; have a0 := (S1.out.blk 0 rfl).cell 0; have a1 := (S1.out.blk 0 rfl).cell 1; have a2 := (S1.out.blk 0 rfl).cell 2; have a3 := (S1.out.blk 0 rfl).cell 3; clear hb))
        go_ret2
        exact ⟨none, 0, rfl, ((Sep.start w).call S1.out.ext).nilrow _ _⟩
      · have b2 : decide ((no:Int) - 1 ≤ v) = false := by simpa using h2
        have hyes : outB true O v = true := by unfold outB; simp; omega
        rw [outL_yes hyes, hyes]
        obtain ⟨k, rfl⟩ : ∃ k : Nat, v = (k : Int) := ⟨v.toNat, by omega⟩
        rw [Int.toNat_natCast]
        have HR := Lib.hid (fun W1 (h : Ext w W1) => row04 po no co O pt nt ct T k W1 (hO.ext h) (hT.ext h) hct hof (by omega) (by omega))
        clear hO hT hR hV hck hyes e1 e2 e3 e4 r hof l1 l2
        go_enter Try.func10, Try.ntmps10
        go_wp2_with (first | (go_at_call 31; go_must (refine (HR.out _ S1.out.ext).mono ?_; rintro e w2 ⟨q, c, rfl, Z⟩; have S2 := Lib.hid (S1.out.comp Z); clear Z)) | (go_at_call 18; go_must (refine (HC.out _ S0.out.ext).mono ?_; rintro e w1 ⟨rfl, hb⟩; have S1 := Lib.hid (S0.out.call hb); have az := (S1.out.blk 0 rfl).lt; have a0 := (S1.out.blk 0 rfl).cell 0; have a1 := (S1.out.blk 0 rfl).cell 1; have a2 := (S1.out.blk 0 rfl).cell 2; have a3 := (S1.out.blk 0 rfl).cell 3; clear hb)))
        go_ret2
        exact ⟨q, c, rfl, S2.out.pick [0] (by decide) rfl⟩
set_option maxRecDepth 100000 in
set_option maxHeartbeats 4000000 in
theorem In04 (po : Option Addr) (no co : Nat) (O : List Int) (pt : Option Addr) (nt ct : Nat) (T : List Int) (pr : Option Addr) (nr cr : Nat) (R : List Int) (pv : Option Addr) (nv cv : Nat) (V : List Int) (w : World) (v : Int) (hO : Rd w 1 po no (encI O)) (hT : Rd w 1 pt nt (encI T)) (hR : Rd w 1 pr nr (encI R)) (hV : Rd w 1 pv nv (encI V)) (hct : nt ≤ ct) (hcv : nv ≤ cv) : Calls Try.prog 12 #[.agg #[.slice po no co, .slice pt nt ct, .slice pr nr cr, .slice pv nv cv], .int .i64 v] w fun e w' => ∃ q c, e = .returned (.tuple #[.slice q (outL (checkR O T R V) R V v).length c, .bool (outB (checkR O T R V) R v)]) ∧ Sep w w' [.own 3 1 q (outL (checkR O T R V) R V v).length c (encI (outL (checkR O T R V) R V v))] := by
  have S0 := Lib.hid ((Sep.start w).al #[.slice po no co, .slice pt nt ct, .slice pr nr cr, .slice pv nv cv] 24 w.heap.size rfl)
  have HC := Lib.hid (fun W1 (h : Ext w W1) => Check04 po no co O pt nt ct T pr nr cr R pv nv cv V W1 (hO.ext h) (hT.ext h) (hR.ext h) (hV.ext h) hct hcv)
  have n1 := hO.small
  cases hck : checkR O T R V with
  | false =>
    rw [hck] at HC
    have hno : outB false R v = false := rfl
    rw [outL_no hno, hno]
    clear hO hT hR hV hck hno
    go_enter Try.func12, Try.ntmps12
    go_wp2_with (go_at_call 18; go_must (refine (HC.out _ S0.out.ext).mono ?_; rintro e w1 ⟨rfl, hb⟩; have S1 := Lib.hid (S0.out.call hb); have az := (S1.out.blk 0 rfl).lt; have a0 := (S1.out.blk 0 rfl).cell 0; have a1 := (S1.out.blk 0 rfl).cell 1; have a2 := (S1.out.blk 0 rfl).cell 2; have a3 := (S1.out.blk 0 rfl).cell 3; clear hb))
    go_ret2
    exact ⟨none, 0, rfl, ((Sep.start w).call S1.out.ext).nilrow _ _⟩
  | true =>
    rw [hck] at HC
    obtain ⟨e1, e2, e3, e4⟩ := checkR_half hck
    have r := offB_parts (halfB_off e4)
    have hof := offOk_of (halfB_off e4)
    have l1 := hO.nI
    have l2 := hV.nI
    by_cases h1 : v < 0
    · have b1 : decide (v < 0) = true := by simpa using h1
      have hno : outB true R v = false := by unfold outB; simp; omega
      rw [outL_no hno, hno]
      clear hO hT hR hV hck hno e1 e2 e3 e4 r hof l1 l2
      go_enter Try.func12, Try.ntmps12
      go_wp2_with (go_at_call 18; go_must (refine (HC.out _ S0.out.ext).mono ?_; rintro e w1 ⟨rfl, hb⟩; have S1 := Lib.hid (S0.out.call hb); have az := (S1.out.blk 0 rfl).lt; have a0 := (S1.out.blk 0 rfl).cell 0; have a1 := (S1.out.blk 0 rfl).cell 1; have a2 := (S1.out.blk 0 rfl).cell 2; have a3 := (S1.out.blk 0 rfl).cell 3; clear hb))
      go_ret2
      exact ⟨none, 0, rfl, ((Sep.start w).call S1.out.ext).nilrow _ _⟩
    · have b1 : decide (v < 0) = false := by simpa using h1
      by_cases h2 : (no:Int) - 1 ≤ v
      · have b2 : decide ((no:Int) - 1 ≤ v) = true := by simpa using h2
        have hno : outB true R v = false := by unfold outB; simp; omega
        rw [outL_no hno, hno]
        clear hO hT hR hV hck hno e1 e2 e3 e4 r hof l1 l2
        go_enter Try.func12, Try.ntmps12
        go_wp2_with (go_at_call 18; go_must (refine (HC.out _ S0.out.ext).mono ?_; rintro e w1 ⟨rfl, hb⟩; have S1 := Lib.hid (S0.out.call hb); have az := (S1.out.blk 0 rfl).lt; have a0 := (S1.out.blk 0 rfl).cell 0; have a1 := (S1.out.blk 0 rfl).cell 1; have a2 := (S1.out.blk 0 rfl).cell 2; have a3 := (S1.out.blk 0 rfl).cell 3; clear hb))
        go_ret2
        exact ⟨none, 0, rfl, ((Sep.start w).call S1.out.ext).nilrow _ _⟩
      · have b2 : decide ((no:Int) - 1 ≤ v) = false := by simpa using h2
        have hyes : outB true R v = true := by unfold outB; simp; omega
        rw [outL_yes hyes, hyes]
        obtain ⟨k, rfl⟩ : ∃ k : Nat, v = (k : Int) := ⟨v.toNat, by omega⟩
        rw [Int.toNat_natCast]
        have HRo := Lib.hid (fun W1 (h : Ext w W1) => row04 pr nr cr R pv nv cv V k W1 (hR.ext h) (hV.ext h) hcv hof (by omega) (by omega))
        clear hO hT hR hV hck hyes e1 e2 e3 e4 r hof l1 l2
        go_enter Try.func12, Try.ntmps12
        go_wp2_with (first | (go_at_call 31; go_must (refine (HRo.out _ S1.out.ext).mono ?_; rintro e w2 ⟨q, c, rfl, Z⟩; have S2 := Lib.hid (S1.out.comp Z); clear Z)) | (go_at_call 18; go_must (refine (HC.out _ S0.out.ext).mono ?_; rintro e w1 ⟨rfl, hb⟩; have S1 := Lib.hid (S0.out.call hb); have az := (S1.out.blk 0 rfl).lt; have a0 := (S1.out.blk 0 rfl).cell 0; have a1 := (S1.out.blk 0 rfl).cell 1; have a2 := (S1.out.blk 0 rfl).cell 2; have a3 := (S1.out.blk 0 rfl).cell 3; clear hb)))
        go_ret2
        exact ⟨q, c, rfl, S2.out.pick [0] (by decide) rfl⟩
theorem Has04 (po : Option Addr) (no co : Nat) (O : List Int) (pt : Option Addr) (nt ct : Nat) (T : List Int) (pr : Option Addr) (nr cr : Nat) (R : List Int) (pv : Option Addr) (nv cv : Nat) (V : List Int) (w : World) (v u : Int) (hO : Rd w 1 po no (encI O)) (hT : Rd w 1 pt nt (encI T)) (hR : Rd w 1 pr nr (encI R)) (hV : Rd w 1 pv nv (encI V)) (hct : nt ≤ ct) (hcv : nv ≤ cv) : Calls Try.prog 20 #[.agg #[.slice po no co, .slice pt nt ct, .slice pr nr cr, .slice pv nv cv], .int .i64 v, .int .i64 u] w fun e w' => e = .returned (.bool (hasB (checkR O T R V) O T v u)) ∧ Ext w w' := by
  have S0 := Lib.hid ((Sep.start w).al #[.slice po no co, .slice pt nt ct, .slice pr nr cr, .slice pv nv cv] 24 w.heap.size rfl)
  have HR := Lib.hid (fun W1 (h : Ext w W1) => Out04 po no co O pt nt ct T pr nr cr R pv nv cv V W1 v (hO.ext h) (hT.ext h) (hR.ext h) (hV.ext h) hct hcv)
  have HL := Lib.hid (outL_len (O := O) (T := T) (R := R) (V := V) (A := O) (v := v) (B := T) (by rw [← hT.nI]; exact hT.small))
  have HB : Hid (hasB (checkR O T R V) O T v u = (outB (checkR O T R V) O v && inB (outL (checkR O T R V) O T v) u)) := rfl
  clear hO hT hR hV
  generalize outL (checkR O T R V) O T v = L at *
  cases ho : outB (checkR O T R V) O v with
  | true =>
    rw [ho] at HR HB
    clear ho
    rw [HB.out]
    go_enter Try.func20, Try.ntmps20
    go_wp2_with (first
      | (go_at_call 36; go_must (refine (In04x _ _ _ L u _ (S1.out.rd 0 rfl HL.out)).mono ?_; rintro e w2 ⟨rfl, hb⟩; have S2 := Lib.hid (S1.out.call hb); clear hb))
      | (go_at_call 10; go_must (refine (HR.out _ S0.out.ext).mono ?_; rintro e w1 ⟨q, c, rfl, T⟩; have S1 := Lib.hid (S0.out.comp T); clear T)))
    go_ret
    exact ⟨rfl, S2.out.ext⟩
  | false =>
    rw [ho] at HR HB
    clear ho
    rw [HB.out]
    go_enter Try.func20, Try.ntmps20
    go_wp2_with (go_at_call 10; go_must (refine (HR.out _ S0.out.ext).mono ?_; rintro e w1 ⟨q, c, rfl, T⟩; have S1 := Lib.hid (S0.out.comp T); clear T))
    go_ret
    exact ⟨rfl, S1.out.ext⟩
end Go.Proofs.Ytgnjffnkmdodeaa
/- The program's Edges of rows. -/
namespace Go.Proofs.Ytgnjffnkmdodeaa
open Go Go.RowKit Go.Shelf Go.Lib
attribute [local go_sem] Oper.semAt_some
def edgL (b : Bool) (O T : List Int) : List (Int × Int) := if b = true then pairs O T else []
def edgC (b : Bool) : Int := if b = true then 0 else 40
def edgPc (a b : Nat) (po : Option Addr) (no co : Nat) (pt : Option Addr) (nt ct : Nat) (cs : Array Value) (q : Option Addr) (c : Nat) (l : List (Int × Int)) : List Pc :=
  [.blk (b + 1 + 1) 22 #[.slice pt nt ct], .blk (b + 1) 22 #[.slice po no co], .blk b 29 #[.slice q l.length c], .blk a 24 cs, .own 52 2 q l.length c (encE l)]
theorem edgPc_cells (a b : Nat) (po : Option Addr) (no co : Nat) (pt : Option Addr) (nt ct : Nat) (cs : Array Value) (q : Option Addr) (c : Nat) (l : List (Int × Int)) : ∀ x ∈ edgPc a b po no co pt nt ct cs q c l, x.cells :=
  cells_all fun x hx => by simp [edgPc] at hx; rcases hx with h | h | h | h | h <;> first | exact .inl ⟨_, _, _, h⟩ | exact .inr ⟨_, _, _, _, _, _, h⟩
theorem pairs_len {O T : List Int} (h : OffOk O T) (h0 : nth O 0 = 0) : ∀ k, k < O.length → (pairsK O T k).length = (nth O k).toNat
  | 0, _ => by rw [h0]; rfl
  | k + 1, hk => by
    rw [pairsK_step, List.length_append, pairs_len h h0 k (by omega)]
    unfold rowX
    rw [List.length_map, rowL_len h hk]
    have := h.le k hk
    have := h.lo k (by omega)
    omega
set_option maxRecDepth 100000 in
set_option maxHeartbeats 4000000 in
theorem REdgesG_yes (po : Option Addr) (no co : Nat) (O : List Int) (pt : Option Addr) (nt ct : Nat) (T : List Int) (pr : Option Addr) (nr cr : Nat) (R : List Int) (pv : Option Addr) (nv cv : Nat) (V : List Int) (w : World) (hO : Rd w 1 po no (encI O)) (hT : Rd w 1 pt nt (encI T)) (hR : Rd w 1 pr nr (encI R)) (hV : Rd w 1 pv nv (encI V)) (hct : nt ≤ ct) (hcv : nv ≤ cv) (hck : checkR O T R V = true) :
    Calls Try.prog 13 #[.agg #[.slice po no co, .slice pt nt ct, .slice pr nr cr, .slice pv nv cv]] w fun e w' => ∃ q c, e = .returned (.tuple #[.slice q (pairs O T).length c, .int .i64 0]) ∧ Sep w w' [.own 52 2 q (pairs O T).length c (encE (pairs O T))] := by
  obtain ⟨i0, hi0, hz0, hz1, hz2⟩ := info_parts inf34
  have S0 := Lib.hid ((Sep.start w).al #[.slice po no co, .slice pt nt ct, .slice pr nr cr, .slice pv nv cv] 24 w.heap.size rfl)
  have HC := Lib.hid (fun W1 (h : Ext w W1) => CheckR po no co O pt nt ct T pr nr cr R pv nv cv V W1 (hO.ext h) (hT.ext h) (hR.ext h) (hV.ext h) hct hcv)
  rw [hck] at HC
  have hh := (checkR_half hck).2.2.1
  have HOK := Lib.hid (offOk_of (halfB_off hh))
  have hpl : (pairs O T).length ≤ 2000 := by
    obtain ⟨r1, r2, r3, r4, r5, r6⟩ := offB_parts (halfB_off hh)
    unfold pairs
    rw [pairs_len HOK.out r4 _ (by omega), r5]; omega
  have hO0 : 0 < no → (adr po 0).block < w.heap.size := fun h => hO.lt (by omega)
  have hT0 : 0 < nt → (adr pt 0).block < w.heap.size := fun h => hT.lt (by omega)
  have HO := Lib.hid hO; clear hO
  have HT := Lib.hid hT; clear hT
  clear hR hV hh hck
  refine (callsIn_wide (n := 9)).1 ?_
  refine callsIn_of_wp_marks Try.func13 rfl trivial ?_ rfl
  simp only [Try.ntmps13, List.size_toArray, List.length_cons, List.length_nil, Nat.reduceAdd, Nat.reduceSub, Array.replicate_succ, Array.replicate_zero, List.push_toArray, List.append_toArray, List.nil_append, List.cons_append]
  refine wpIn_wide.2 ?_
  go_wp2_with (first
    | (go_at_call 32; go_must (refine (allG po no co pt nt ct _).mono ?_; rintro e w3 ⟨rfl, hw3⟩; have S3 := (((S1.out.nilrow 52 2).al #[.slice none 0 0] 29 w1.heap.size rfl).al #[.slice po no co] 22 (w1.heap.size + 1) (by simp)).al #[.slice pt nt ct] 22 (w1.heap.size + 1 + 1) (by simp); rw [← hw3] at S3; have S4 := Lib.hid ((S3.pick [0, 1, 2, 4, 3] (by decide) rfl : Sep w w3 (edgPc w.heap.size w1.heap.size po no co pt nt ct #[.slice po no co, .slice pt nt ct, .slice pr nr cr, .slice pv nv cv] none 0 []))); clear S3 hw3))
    | (go_at_call 17; go_must (refine (HC.out _ S0.out.ext).mono ?_; rintro e w1 ⟨rfl, hb⟩; have S1 := Lib.hid (S0.out.call hb); have c0 := (S1.out.blk 0 rfl).cell 0; have c1 := (S1.out.blk 0 rfl).cell 1; have z0 := (S1.out.blk 0 rfl).lt; clear hb)))
  clear S0 S1 HC c0 c1
  generalize w1.heap.size = b at *
  refine wpIn_wide.1 (wpIn_rangeFunc_ownG (F := Fence.wide) (n := 9) rfl (by omega) (gf := 45) (lb := #[.pointer (some ⟨b + 1, 0, none⟩), .pointer (some ⟨b + 1 + 1, 0, none⟩)]) rfl trivial (enters_of Try.func45 (by kernel_rfl) rfl)
    (all_stops 8 (by omega) (b + 1) (b + 1 + 1) w.heap.size po no co pt nt ct O T w3 S4.out.ext.size (S4.out.blk 1 rfl) (S4.out.blk 0 rfl) (HO.out.ext S4.out.ext) (HT.out.ext S4.out.ext) hO0 hT0 HOK.out hct)
    (fun h k => KpA.trans h k) (kpA_b S4.out.ext.size (S4.out.blk 1 rfl).lt (S4.out.blk 0 rfl).lt) (Below.refl _ _) (fun _ => rfl)
    (fun pre W => ∃ q c, Sep w W (edgPc w.heap.size b po no co pt nt ct #[.slice po no co, .slice pt nt ct, .slice pr nr cr, .slice pv nv cv] q c (pre.map (·.1))))
    (fun _ _ _ => False)
    ?hI (fun _ _ _ _ _ hs _ _ => hs) ⟨none, 0, S4.out⟩ ?a1 ?assign ?body ?done (fun D c pre W _ _ h _ => h.elim))
  case hI => exact fun s A B row hs hg hr => hs.elim fun q h => h.elim fun c S => ⟨q, c, S.turn (edgPc_cells _ _ _ _ _ _ _ _ _ _ _ _) S4.out.ext.size hg hr⟩
  case assign =>
    intro l x W K hK
    gi_wp2
    exact hK
  case body =>
    rintro l pre ⟨⟨v, u⟩, hx⟩ W ⟨q, c, S⟩ hlen
    have hm : (pre ++ [(⟨(v, u), hx⟩ : PairOf O T)]).map (·.1) = pre.map (·.1) ++ [(v, u)] := by simp
    have HM := Lib.hid hm
    have hlm : (pre.map (·.1)).length ≤ 2000 := by rw [List.length_map]; omega
    have c4 := (S.blk 2 rfl).cell 0
    have f4 := (S.blk 2 rfl).frozen 0
    have z4 := (S.blk 2 rfl).lt
    have kE := Lib.hid (keeps_ext (Ext.alloc (Below.refl _ W) (.cells #[.int .i64 v, .int .i64 u] 52)))
    generalize pre.map (·.1) = ps at *
    have SH := Lib.hid S; clear S
    clear hm S4 HO HT hO0 hT0
    refine wpIn_block ?_
    refine wpIn_region_list (by rintro ⟨_, _, h⟩; exact h) (by kernel_rfl) ?_
    go_wp2_with (at_builtin; go_must (refine wpList_append_sepK rfl _ _ _ rfl 52 i0 _ 2 16 Try.underlying29 hi0 hz0 hz1 hz2 rfl (by omega) (SH.out.junk _) 4 q ps.length c _ rfl rfl _ 1 1 _ rfl (Rd.one2 _ _ _ _) (one_encE _) (by omega) (by omega) ?_; intro q' c' w' S' hsz hK1; have k4 := (S'.blk 2 rfl).cell 0; have kf := (S'.blk 2 rfl).frozen 0; have kz := (S'.blk 2 rfl).lt; have S5 := Lib.hid S'; have K5 := Lib.hid hK1; clear S' hsz hK1))
    have S6 := S5.out.set 2 rfl 0 (.slice q' (ps.length + 1) c')
    refine ⟨((kE.out.trans K5.out).trans (KeepsOthers.setCell _ _ _)).from _, kpA_of SH.out.ext S6.ext (Nat.le_trans kE.out.size (Nat.le_trans K5.out.size (KeepsOthers.setCell _ _ _).size)) (SH.out.blk 1 rfl) (SH.out.blk 0 rfl) (S6.blk 1 rfl) (S6.blk 0 rfl), q', c', ?_⟩
    rw [HM.out]
    unfold edgPc
    rw [List.length_append, encE_append]
    exact S6
  case done =>
    rintro D ys W hD hys ⟨q, c, S⟩ hK
    rw [hys] at S
    have c4 := (S.blk 2 rfl).cell 0
    have S' := S.putObj (edgPc_cells w.heap.size b po no co pt nt ct _ q c _) (.deferred none) (Nat.le_trans S4.out.ext.size hD) hK rfl
    have SH := Lib.hid S; clear S
    have SH' := Lib.hid S'; clear S'
    go_wp2
    refine ⟨by simp, .inl ⟨_, _, rfl, run_takeDeferred hK, ?_⟩⟩
    exact ⟨.tuple #[.slice q (pairs O T).length c, .int .i64 0], by simp [results, Try.results13, go_sem], q, c, rfl, SH'.out.pick [4] (by decide) rfl⟩
set_option maxHeartbeats 1000000 in
theorem REdgesG (po : Option Addr) (no co : Nat) (O : List Int) (pt : Option Addr) (nt ct : Nat) (T : List Int) (pr : Option Addr) (nr cr : Nat) (R : List Int) (pv : Option Addr) (nv cv : Nat) (V : List Int) (w : World) (hO : Rd w 1 po no (encI O)) (hT : Rd w 1 pt nt (encI T)) (hR : Rd w 1 pr nr (encI R)) (hV : Rd w 1 pv nv (encI V)) (hct : nt ≤ ct) (hcv : nv ≤ cv) : Calls Try.prog 13 #[.agg #[.slice po no co, .slice pt nt ct, .slice pr nr cr, .slice pv nv cv]] w fun e w' => ∃ q c, e = .returned (.tuple #[.slice q (edgL (checkR O T R V) O T).length c, .int .i64 (edgC (checkR O T R V))]) ∧ Sep w w' [.own 52 2 q (edgL (checkR O T R V) O T).length c (encE (edgL (checkR O T R V) O T))] := by
  cases hck : checkR O T R V with
  | true => exact REdgesG_yes po no co O pt nt ct T pr nr cr R pv nv cv V w hO hT hR hV hct hcv hck
  | false =>
    have S0 := Lib.hid ((Sep.start w).al #[.slice po no co, .slice pt nt ct, .slice pr nr cr, .slice pv nv cv] 24 w.heap.size rfl)
    have HC := Lib.hid (fun W1 (h : Ext w W1) => CheckR po no co O pt nt ct T pr nr cr R pv nv cv V W1 (hO.ext h) (hT.ext h) (hR.ext h) (hV.ext h) hct hcv)
    rw [hck] at HC
    clear hO hT hR hV hck
    show Calls _ _ _ _ fun e w' => ∃ q c, e = .returned (.tuple #[.slice q 0 c, .int .i64 40]) ∧ Sep w w' [.own 52 2 q 0 c []]
    go_enter Try.func13, Try.ntmps13
    go_wp2_with (go_at_call 17; go_must (refine (HC.out _ S0.out.ext).mono ?_; rintro e w1 ⟨rfl, hb⟩; have S1 := Lib.hid (S0.out.call hb); have c0 := (S1.out.blk 0 rfl).cell 0; have c1 := (S1.out.blk 0 rfl).cell 1; have z0 := (S1.out.blk 0 rfl).lt; clear hb))
    go_ret2
    exact ⟨none, 0, rfl, ((Sep.start w).call S1.out.ext).nilrow _ _⟩
end Go.Proofs.Ytgnjffnkmdodeaa
/- The reference's Edges and Own of rows. -/
namespace Go.Proofs.Ytgnjffnkmdodeaa
open Go Go.RowKit
def OwnQ (b : Nat) (no nt nr nv : Nat) (O T R V : List Int) (i : Nat) (v : Value) (W : World) : Prop :=
  match i with
  | 2 => ∃ q d, v = .slice q no d ∧ W.ownsRow b 3 1 (.slice q no d) no (encI O)
  | 5 => ∃ q d, v = .slice q nt d ∧ W.ownsRow b 3 1 (.slice q nt d) nt (encI T)
  | 8 => ∃ q d, v = .slice q nr d ∧ W.ownsRow b 3 1 (.slice q nr d) nr (encI R)
  | 11 => ∃ q d, v = .slice q nv d ∧ W.ownsRow b 3 1 (.slice q nv d) nv (encI V)
  | _ => True
theorem OwnQ_mono {b no nt nr nv : Nat} {O T R V : List Int} : ∀ i v W W', Ext W W' → OwnQ b no nt nr nv O T R V i v W → OwnQ b no nt nr nv O T R V i v W' := by
  intro i v W W' he h
  unfold OwnQ at *
  split at h <;> first | trivial | (obtain ⟨q, c, h1, h2⟩ := h; exact ⟨q, c, h1, he.own h2⟩)
set_option maxRecDepth 100000 in
set_option maxHeartbeats 4000000 in
theorem Own04 (po : Option Addr) (no co : Nat) (O : List Int) (pt : Option Addr) (nt ct : Nat) (T : List Int) (pr : Option Addr) (nr cr : Nat) (R : List Int) (pv : Option Addr) (nv cv : Nat) (V : List Int) (w : World) (hO : Rd w 1 po no (encI O)) (hT : Rd w 1 pt nt (encI T)) (hR : Rd w 1 pr nr (encI R)) (hV : Rd w 1 pv nv (encI V)) (b1 : no ≤ 100000) (b2 : nt ≤ 100000) (b3 : nr ≤ 100000) (b4 : nv ≤ 100000) :
    Calls Try.prog 8 #[.agg #[.slice po no co, .slice pt nt ct, .slice pr nr cr, .slice pv nv cv]] w fun e w' => ∃ qo do' qt dt qr dr qv dv, e = .returned (.agg #[.slice qo no do', .slice qt nt dt, .slice qr nr dr, .slice qv nv dv]) ∧ R4 w' qo no qt nt qr nr qv nv O T R V ∧ nt ≤ dt ∧ nv ≤ dv ∧ Ext w w' := by
  have HO := Lib.hid (fun W1 (h : Ext w W1) => OwnI01 po no co O W1 (hO.ext h) (by omega))
  have HT := Lib.hid (fun W1 (h : Ext w W1) => OwnI01 pt nt ct T W1 (hT.ext h) (by omega))
  have HR := Lib.hid (fun W1 (h : Ext w W1) => OwnI01 pr nr cr R W1 (hR.ext h) (by omega))
  have HV := Lib.hid (fun W1 (h : Ext w W1) => OwnI01 pv nv cv V W1 (hV.ext h) (by omega))
  have D1 := Lib.hid b1
  have D2 := Lib.hid b2
  have D3 := Lib.hid b3
  have D4 := Lib.hid b4
  obtain ⟨X, hX⟩ : ∃ X, X = (w.alloc (.cells #[.slice po no co, .slice pt nt ct, .slice pr nr cr, .slice pv nv cv] 24)).alloc (.cells #[.slice none 0 0, .slice none 0 0, .slice none 0 0, .slice none 0 0] 24) := ⟨_, rfl⟩
  have S0 := Lib.hid (hX ▸ (((Sep.start w).al #[.slice po no co, .slice pt nt ct, .slice pr nr cr, .slice pv nv cv] 24 w.heap.size rfl).al #[.slice none 0 0, .slice none 0 0, .slice none 0 0, .slice none 0 0] 24 (w.heap.size + 1) (by simp)) : Sep w X _)
  clear hO hT hR hV b1 b2 b3 b4
  go_enter Try.func8, Try.ntmps8
  go_wp2
  rw [← hX]
  clear hX
  have az := (S0.out.blk 1 rfl).lt; have a0 := (S0.out.blk 1 rfl).cell 0; have a1 := (S0.out.blk 1 rfl).cell 1; have a2 := (S0.out.blk 1 rfl).cell 2; have a3 := (S0.out.blk 1 rfl).cell 3
  have x0 := fun x : ExtOf X => x.ext.cell a0
  have x1 := fun x : ExtOf X => x.ext.cell a1
  have x2 := fun x : ExtOf X => x.ext.cell a2
  have x3 := fun x : ExtOf X => x.ext.cell a3
  refine wp_region_mix [true, true, false, true, true, false, true, true, false, true, true, false] (OwnQ X.heap.size no nt nr nv O T R V) (by kernel_rfl) (by kernel_rfl) (by kernel_rfl) OwnQ_mono ?_
  simp only [nfM]
  repeat (go_big_quiet_step ((fail)))
  refine wpQuiet_nil ⟨⟨fun vs W1 hE hd => ?_, fun vs W1 hE hd => ?_, fun vs W1 hE hd => ?_, fun vs W1 hE hd => ?_, trivial⟩, fun vs W1 hE hkn => ?_⟩
  · simp [putM, execOp, go_sem]
    exact (HO.out _ (Ext.trans S0.out.ext hE)).mono fun e w' ⟨q, d, h1, S⟩ => ⟨_, h1, ⟨q, d, rfl, own_base (S.own 0 rfl) hE.size⟩, S.ext⟩
  · simp [putM, execOp, go_sem]
    exact (HT.out _ (Ext.trans S0.out.ext hE)).mono fun e w' ⟨q, d, h1, S⟩ => ⟨_, h1, ⟨q, d, rfl, own_base (S.own 0 rfl) hE.size⟩, S.ext⟩
  · simp [putM, execOp, go_sem]
    exact (HR.out _ (Ext.trans S0.out.ext hE)).mono fun e w' ⟨q, d, h1, S⟩ => ⟨_, h1, ⟨q, d, rfl, own_base (S.own 0 rfl) hE.size⟩, S.ext⟩
  · simp [putM, execOp, go_sem]
    exact (HV.out _ (Ext.trans S0.out.ext hE)).mono fun e w' ⟨q, d, h1, S⟩ => ⟨_, h1, ⟨q, d, rfl, own_base (S.own 0 rfl) hE.size⟩, S.ext⟩
  obtain ⟨⟨qo, do', k1, r1⟩, ⟨qt, dt, k2, r2⟩, ⟨qr, dr, k3, r3⟩, ⟨qv, dv, k4, r4⟩, _⟩ := hkn
  have c2 := own_cap r2
  have c4 := own_cap r4
  have SY := Lib.hid (S0.out.call hE)
  have Y1 := Lib.hid (S0.out.fresh hE r1 (Nat.le_refl _))
  have Y2 := Lib.hid (S0.out.fresh hE r2 (Nat.le_refl _))
  have Y3 := Lib.hid (S0.out.fresh hE r3 (Nat.le_refl _))
  have Y4 := Lib.hid (S0.out.fresh hE r4 (Nat.le_refl _))
  simp only [putM, k1, k2, k3, k4, List.length_cons, List.length_nil, Nat.zero_add, Nat.reduceAdd, List.drop_succ_cons, List.drop_zero]
  clear x0 x1 x2 x3 k1 k2 k3 k4 hE r1 r2 r3 r4 a0 a1 a2 a3 az
  have uz := (SY.out.blk 0 rfl).lt; have u0 := (SY.out.blk 0 rfl).cell 0; have u1 := (SY.out.blk 0 rfl).cell 1; have u2 := (SY.out.blk 0 rfl).cell 2; have u3 := (SY.out.blk 0 rfl).cell 3
  have uf0 := (SY.out.blk 0 rfl).frozen 0
  have uf1 := (SY.out.blk 0 rfl).frozen 1
  have uf2 := (SY.out.blk 0 rfl).frozen 2
  have uf3 := (SY.out.blk 0 rfl).frozen 3
  go_wp2
  have S7 := (((SY.out.set 0 rfl 0 (.slice qo no do')).set 0 rfl 1 (.slice qt nt dt)).set 0 rfl 2 (.slice qr nr dr)).set 0 rfl 3 (.slice qv nv dv)
  have b0 := (S7.blk 0 rfl).cell 0
  have b1 := (S7.blk 0 rfl).cell 1
  have b2 := (S7.blk 0 rfl).cell 2
  have b3 := (S7.blk 0 rfl).cell 3
  refine bodyPost_ret (v := .agg #[.slice qo no do', .slice qt nt dt, .slice qr nr dr, .slice qv nv dv]) (by simp [results, Try.results8, go_sem, b0, b1, b2, b3, Try.sizeOf24, Try.isAgg24]) rfl ⟨qo, do', qt, dt, qr, dr, qv, dv, rfl, ?_, c2, c4, S7.ext⟩
  exact ⟨((((Y1.out.set 1 rfl 0 (.slice qo no do')).set 1 rfl 1 (.slice qt nt dt)).set 1 rfl 2 (.slice qr nr dr)).set 1 rfl 3 (.slice qv nv dv)).rd 0 rfl (by have := D1.out; omega), ((((Y2.out.set 1 rfl 0 (.slice qo no do')).set 1 rfl 1 (.slice qt nt dt)).set 1 rfl 2 (.slice qr nr dr)).set 1 rfl 3 (.slice qv nv dv)).rd 0 rfl (by have := D2.out; omega), ((((Y3.out.set 1 rfl 0 (.slice qo no do')).set 1 rfl 1 (.slice qt nt dt)).set 1 rfl 2 (.slice qr nr dr)).set 1 rfl 3 (.slice qv nv dv)).rd 0 rfl (by have := D3.out; omega), ((((Y4.out.set 1 rfl 0 (.slice qo no do')).set 1 rfl 1 (.slice qt nt dt)).set 1 rfl 2 (.slice qr nr dr)).set 1 rfl 3 (.slice qv nv dv)).rd 0 rfl (by have := D4.out; omega)⟩
set_option maxRecDepth 100000 in
set_option maxHeartbeats 8000000 in
theorem Edges04_yes (po : Option Addr) (no co : Nat) (O : List Int) (pt : Option Addr) (nt ct : Nat) (T : List Int) (pr : Option Addr) (nr cr : Nat) (R : List Int) (pv : Option Addr) (nv cv : Nat) (V : List Int) (w : World) (hO : Rd w 1 po no (encI O)) (hT : Rd w 1 pt nt (encI T)) (hR : Rd w 1 pr nr (encI R)) (hV : Rd w 1 pv nv (encI V)) (hct : nt ≤ ct) (hcv : nv ≤ cv) (hck : checkR O T R V = true) :
    Calls Try.prog 14 #[.agg #[.slice po no co, .slice pt nt ct, .slice pr nr cr, .slice pv nv cv]] w fun e w' => ∃ q c, e = .returned (.tuple #[.slice q (edgL true O T).length c, .int .i64 (edgC true)]) ∧ Sep w w' [.own 52 2 q (edgL true O T).length c (encE (edgL true O T))] := by
  obtain ⟨i0, hi0, hz0, hz1, hz2⟩ := info_parts inf34
  have S0 := Lib.hid ((Sep.start w).al #[.slice po no co, .slice pt nt ct, .slice pr nr cr, .slice pv nv cv] 24 w.heap.size rfl)
  have HC := Lib.hid (fun W1 (h : Ext w W1) => Check04 po no co O pt nt ct T pr nr cr R pv nv cv V W1 (hO.ext h) (hT.ext h) (hR.ext h) (hV.ext h) hct hcv)
  rw [hck] at HC
  have h1 := (checkR_half hck).2.2.1
  have r := offB_parts (halfB_off h1)
  have HOK := offOk_of (halfB_off h1)
  have l1 := hO.nI
  have l2 := hT.nI
  have n1 := hO.small
  have L1 := Lib.hid l1
  have hpk : Hid (∀ k, k < O.length - 1 → ∀ j, (pairsK O T k ++ (rowX O T k).take j).length ≤ 2000) := fun k hk j => by
    have h := (pairs_prefix (O := O) (T := T) (j := j) hk).length_le
    unfold pairs at h
    rw [pairs_len HOK r.2.2.2.1 (O.length - 1) (by omega), r.2.2.2.2.1] at h
    omega
  have HR1 := Lib.hid (fun W1 (h : Ext w W1) k (hk : k + 1 < O.length) => row04 po no co O pt nt ct T k W1 (hO.ext h) (hT.ext h) hct HOK hk (by omega))
  have no200 : no ≤ 201 := by omega
  have rl2000 : ∀ k, (rowL O T k).length ≤ 2000 := fun k => by unfold rowL; rw [List.length_take, List.length_drop]; omega
  have RL := Lib.hid rl2000
  clear hO hT hR hV hck h1 r HOK l1 l2 rl2000
  show Calls _ _ _ _ fun e w' => ∃ q c, e = .returned (.tuple #[.slice q (pairs O T).length c, .int .i64 0]) ∧ Sep w w' [.own 52 2 q (pairs O T).length c (encE (pairs O T))]
  go_enter Try.func14, Try.ntmps14
  go_wp2_with (go_at_call 18; go_must (refine (HC.out _ S0.out.ext).mono ?_; rintro e w1 ⟨rfl, hb⟩; have S1 := Lib.hid (S0.out.call hb); have az := (S1.out.blk 0 rfl).lt; have a0 := (S1.out.blk 0 rfl).cell 0; have a1 := (S1.out.blk 0 rfl).cell 1; have a2 := (S1.out.blk 0 rfl).cell 2; have a3 := (S1.out.blk 0 rfl).cell 3; clear hb))
  go_loopw [4, 5, 6, 7] (fun out v _ _ wr => ∃ (k : Nat) (q : Option Addr) (c : Nat), k ≤ no - 1 ∧ v = .int .i64 k ∧ out = .slice q (pairsK O T k).length c ∧ Sep w wr [.own 52 2 q (pairsK O T k).length c (encE (pairsK O T k)), .blk w.heap.size 24 #[.slice po no co, .slice pt nt ct, .slice pr nr cr, .slice pv nv cv]]) (fun _ v _ _ _ => no - 1 - (intOf v).toNat)
  case atStart => exact ⟨0, none, 0, Nat.zero_le _, rfl, rfl, S1.out.nilrow _ _⟩
  case round =>
    clear S0 S1 a0 a1 a2 a3 az
    obtain ⟨k, q, c, hk, rfl, rfl, S⟩ := hrel
    have az := (S.blk 1 rfl).lt; have a0 := (S.blk 1 rfl).cell 0; have a1 := (S.blk 1 rfl).cell 1; have a2 := (S.blk 1 rfl).cell 2; have a3 := (S.blk 1 rfl).cell 3
    by_cases hlt : k < no - 1
    · have hkO : k + 1 < O.length := by have := L1.out; omega
      have t1 : (k:Int) + 1 < no := by omega
      have t0 : (0:Int) ≤ k := by omega
      have HRk := Lib.hid (fun W1 (h : Ext w W1) => HR1.out W1 h k hkO)
      have rlk := RL.out k
      have hpl := Lib.hid (hpk.out k (by omega))
      have hst := Lib.hid (fun j (hj : j < (rowL O T k).length) => rowX_take (O := O) (T := T) hj)
      have hend : Hid ((rowX O T k).take (rowL O T k).length = rowX O T k) := by unfold Hid rowX; rw [List.take_of_length_le (by simp)]
      have hps := Lib.hid (pairsK_step O T k)
      generalize rowL O T k = l at *
      generalize rowX O T k = xs at *
      generalize pairsK O T k = ps at *
      have SH := Lib.hid S; clear S
      go_wp2_with (go_at_call 31; go_must (refine (HRk.out _ SH.out.ext).mono ?_; rintro e w3 ⟨q2, c2, rfl, Z⟩; have P1 := Lib.hid (SH.out.comp Z); clear Z))
      go_loopw [4, 7] (fun out i wr => ∃ (j : Nat) (q : Option Addr) (c : Nat), j ≤ l.length ∧ i = .int .i64 j ∧ out = .slice q (ps ++ xs.take j).length c ∧ Sep w wr [.own 3 1 q2 l.length c2 (encI l), .own 52 2 q (ps ++ xs.take j).length c (encE (ps ++ xs.take j)), .blk w.heap.size 24 #[.slice po no co, .slice pt nt ct, .slice pr nr cr, .slice pv nv cv]]) (fun _ i _ => l.length - (intOf i).toNat)
      case atStart => exact ⟨0, q, c, Nat.zero_le _, rfl, by simp, by simpa using P1.out⟩
      case round =>
        clear SH P1 a0 a1 a2 a3 az
        obtain ⟨j, q, c, hj, rfl, rfl, S⟩ := hrel
        have pq := (S.rd 0 rfl (by omega)).ptr
        by_cases hlj : j < l.length
        · have g1 := (S.rd 0 rfl (by omega)).cI hlj
          have h0 := hpl.out j
          have hs : Hid (ps ++ xs.take (j + 1) = (ps ++ xs.take j) ++ [((k:Int), nth l j)]) := by unfold Hid; rw [hst.out j hlj, List.append_assoc]
          generalize ps ++ xs.take j = ys at *
          generalize nth l j = x at *
          have t2 : (0:Int) ≤ j := by omega
          have t3 : (j:Int) < l.length := by omega
          have SH := Lib.hid S; clear S
          go_wp2_with (at_builtin; go_must (refine wpList_append_sep rfl _ _ _ rfl 52 i0 _ 2 16 Try.underlying29 hi0 hz0 hz1 hz2 rfl (by omega) (SH.out.junk _) 1 q ys.length c _ rfl rfl _ 1 1 _ rfl (Rd.one2 _ _ _ _) (one_encE _) (by omega) (by omega) ?_; intro q' c' w' S' hsz; have S5 := Lib.hid S'; clear S' hsz))
          go_roundw
          case rel => exact ⟨j + 1, q', c', by omega, by go_num, by rw [hs.out, List.length_append]; rfl, by rw [hs.out, List.length_append, encE_append]; exact S5.out⟩
          case measure => simp [intOf]; omega
        · obtain rfl : j = l.length := by omega
          rw [hend.out, ← hps.out] at S
          rw [hend.out, ← hps.out]
          have SH := Lib.hid S; clear S
          go_wp2
          go_roundw
          case rel => exact ⟨k + 1, q, c, by omega, by go_num, rfl, SH.out.pick [1, 2] (by decide) rfl⟩
          case measure => simp [intOf]; omega
    · have hend : pairsK O T k = pairs O T := by
        unfold pairs
        rw [show O.length - 1 = k by have := L1.out; omega]
      rw [hend] at S
      rw [hend]
      have t1 : decide ((k:Int) + 1 < no) = false := by simp; omega
      have SH := Lib.hid S; clear S
      clear hend
      go_wp2
      go_ret2
      exact ⟨q, c, rfl, SH.out.pick [0] (by decide) rfl⟩
theorem Edges04 (po : Option Addr) (no co : Nat) (O : List Int) (pt : Option Addr) (nt ct : Nat) (T : List Int) (pr : Option Addr) (nr cr : Nat) (R : List Int) (pv : Option Addr) (nv cv : Nat) (V : List Int) (w : World) (hO : Rd w 1 po no (encI O)) (hT : Rd w 1 pt nt (encI T)) (hR : Rd w 1 pr nr (encI R)) (hV : Rd w 1 pv nv (encI V)) (hct : nt ≤ ct) (hcv : nv ≤ cv) :
    Calls Try.prog 14 #[.agg #[.slice po no co, .slice pt nt ct, .slice pr nr cr, .slice pv nv cv]] w fun e w' => ∃ q c, e = .returned (.tuple #[.slice q (edgL (checkR O T R V) O T).length c, .int .i64 (edgC (checkR O T R V))]) ∧ Sep w w' [.own 52 2 q (edgL (checkR O T R V) O T).length c (encE (edgL (checkR O T R V) O T))] := by
  cases hck : checkR O T R V with
  | true => exact Edges04_yes po no co O pt nt ct T pr nr cr R pv nv cv V w hO hT hR hV hct hcv hck
  | false =>
    have S0 := Lib.hid ((Sep.start w).al #[.slice po no co, .slice pt nt ct, .slice pr nr cr, .slice pv nv cv] 24 w.heap.size rfl)
    have HC := Lib.hid (fun W1 (h : Ext w W1) => Check04 po no co O pt nt ct T pr nr cr R pv nv cv V W1 (hO.ext h) (hT.ext h) (hR.ext h) (hV.ext h) hct hcv)
    rw [hck] at HC
    clear hO hT hR hV hck
    show Calls _ _ _ _ fun e w' => ∃ q c, e = .returned (.tuple #[.slice q 0 c, .int .i64 40]) ∧ Sep w w' [.own 52 2 q 0 c []]
    go_enter Try.func14, Try.ntmps14
    go_wp2_with (go_at_call 18; go_must (refine (HC.out _ S0.out.ext).mono ?_; rintro e w1 ⟨rfl, hb⟩; have S1 := Lib.hid (S0.out.call hb); have az := (S1.out.blk 0 rfl).lt; have a0 := (S1.out.blk 0 rfl).cell 0; have a1 := (S1.out.blk 0 rfl).cell 1; have a2 := (S1.out.blk 0 rfl).cell 2; have a3 := (S1.out.blk 0 rfl).cell 3; clear hb))
    go_ret2
    exact ⟨none, 0, rfl, ((Sep.start w).call S1.out.ext).nilrow _ _⟩
end Go.Proofs.Ytgnjffnkmdodeaa
/- An own row is small. -/
namespace Go.Proofs.Ytgnjffnkmdodeaa
open Go Go.RowKit
theorem own_sm {w : World} {base : Nat} {e : TypeId} {size : Nat} {q : Option Addr} {n c : Nat} {xs : List Value} (h : w.ownsRow base e size (.slice q n c) n xs) : n ≤ 9223372036854775807 := by
  rcases h.2 with ⟨_, h2⟩ | ⟨g, cap, cur, h1, _, _, h3, h4, _⟩
  · omega
  · unfold maxLen at h4; omega
theorem Sep.rdx {w0 w : World} {Γ : List Pc} (S : Sep w0 w Γ) (i : Nat) {e : TypeId} {size : Nat} {q : Option Addr} {n c : Nat} {xs : List Value} (h : Γ[i]? = some (.own e size q n c xs)) : Rd w size q n xs := Rd.of_own (S.own i h) (own_sm (S.own i h))
end Go.Proofs.Ytgnjffnkmdodeaa
/- The law RowsTell: rows are right, or not, and tell just these of a place, and just these edges. -/
namespace Go.Proofs.Ytgnjffnkmdodeaa
open Go Go.RowKit
theorem bigR_bd {O T R V : List Int} (h : bigR O T R V = false) : O.length ≤ 250 ∧ T.length ≤ 2100 ∧ R.length ≤ 250 ∧ V.length ≤ 2100 := by
  unfold bigR at h
  simp only [Bool.or_eq_false_iff, decide_eq_false_iff_not] at h
  omega
set_option maxRecDepth 100000 in
set_option maxHeartbeats 16000000 in
theorem lawTell4 (po : Option Addr) (no co : Nat) (O : List Int) (pt : Option Addr) (nt ct : Nat) (T : List Int) (pr : Option Addr) (nr cr : Nat) (R : List Int) (pv : Option Addr) (nv cv : Nat) (V : List Int) (v u : Int) (w : World) (hO : Rd w 1 po no (encI O)) (hT : Rd w 1 pt nt (encI T)) (hR : Rd w 1 pr nr (encI R)) (hV : Rd w 1 pv nv (encI V)) (hct : nt ≤ ct) (hcv : nv ≤ cv) : Calls Try.prog 3 #[.agg #[.slice po no co, .slice pt nt ct, .slice pr nr cr, .slice pv nv cv], .int .i64 v, .int .i64 u] w fun e w' => e = .returned (.bool true) ∧ Ext w w' := by
  have HBig := Lib.hid (fun W1 (h : Ext w W1) => Big04 po no co O pt nt ct T pr nr cr R pv nv cv V W1 (hO.ext h) (hT.ext h) (hR.ext h) (hV.ext h))
  have S0 := Lib.hid ((Sep.start w).al #[.slice po no co, .slice pt nt ct, .slice pr nr cr, .slice pv nv cv] 24 w.heap.size rfl)
  cases hbig : bigR O T R V with
  | true =>
    rw [hbig] at HBig
    clear hO hT hR hV
    go_enter Try.func3, Try.ntmps3
    go_wp2_with (go_at_call 7; go_must (refine (HBig.out _ S0.out.ext).mono ?_; rintro e w1 ⟨rfl, hb1⟩; have S1 := Lib.hid (S0.out.call hb1); have xz := (S1.out.blk 0 rfl).lt; have x0 := (S1.out.blk 0 rfl).cell 0; have x1 := (S1.out.blk 0 rfl).cell 1; have x2 := (S1.out.blk 0 rfl).cell 2; have x3 := (S1.out.blk 0 rfl).cell 3; clear hb1))
    go_ret
    exact ⟨rfl, S1.out.ext⟩
  | false =>
    rw [hbig] at HBig
    have hbd := bigR_bd hbig
    have l1 := hO.nI
    have l2 := hT.nI
    have l3 := hR.nI
    have l4 := hV.nI
    have HOwn := Lib.hid (fun W1 (h : Ext w W1) => Own04 po no co O pt nt ct T pr nr cr R pv nv cv V W1 (hO.ext h) (hT.ext h) (hR.ext h) (hV.ext h) (by omega) (by omega) (by omega) (by omega))
    have HOut := Lib.hid (fun W1 (h : Ext w W1) => OutG po no co O pt nt ct T pr nr cr R pv nv cv V W1 v (hO.ext h) (hT.ext h) (hR.ext h) (hV.ext h) hct hcv)
    have HIn := Lib.hid (fun W1 (h : Ext w W1) => InG po no co O pt nt ct T pr nr cr R pv nv cv V W1 v (hO.ext h) (hT.ext h) (hR.ext h) (hV.ext h) hct hcv)
    have HEd := Lib.hid (fun W1 (h : Ext w W1) => REdgesG po no co O pt nt ct T pr nr cr R pv nv cv V W1 (hO.ext h) (hT.ext h) (hR.ext h) (hV.ext h) hct hcv)
    have HCk := Lib.hid (fun W1 (h : Ext w W1) => CheckR po no co O pt nt ct T pr nr cr R pv nv cv V W1 (hO.ext h) (hT.ext h) (hR.ext h) (hV.ext h) hct hcv)
    have HHas := Lib.hid (fun W1 (h : Ext w W1) => HasG po no co O pt nt ct T pr nr cr R pv nv cv V W1 v u (hO.ext h) (hT.ext h) (hR.ext h) (hV.ext h) hct hcv)
    have HOut4 := Lib.hid (fun (qo : Option Addr) (do' : Nat) (qt : Option Addr) (dt : Nat) (qr : Option Addr) (dr : Nat) (qv : Option Addr) (dv : Nat) W1 (h : R4 W1 qo no qt nt qr nr qv nv O T R V) (h1 : nt ≤ dt) (h2 : nv ≤ dv) => Out04 qo no do' O qt nt dt T qr nr dr R qv nv dv V W1 v h.o h.t h.r h.v h1 h2)
    have HIn4 := Lib.hid (fun (qo : Option Addr) (do' : Nat) (qt : Option Addr) (dt : Nat) (qr : Option Addr) (dr : Nat) (qv : Option Addr) (dv : Nat) W1 (h : R4 W1 qo no qt nt qr nr qv nv O T R V) (h1 : nt ≤ dt) (h2 : nv ≤ dv) => In04 qo no do' O qt nt dt T qr nr dr R qv nv dv V W1 v h.o h.t h.r h.v h1 h2)
    have HEd4 := Lib.hid (fun (qo : Option Addr) (do' : Nat) (qt : Option Addr) (dt : Nat) (qr : Option Addr) (dr : Nat) (qv : Option Addr) (dv : Nat) W1 (h : R4 W1 qo no qt nt qr nr qv nv O T R V) (h1 : nt ≤ dt) (h2 : nv ≤ dv) => Edges04 qo no do' O qt nt dt T qr nr dr R qv nv dv V W1 h.o h.t h.r h.v h1 h2)
    have HCk4 := Lib.hid (fun (qo : Option Addr) (do' : Nat) (qt : Option Addr) (dt : Nat) (qr : Option Addr) (dr : Nat) (qv : Option Addr) (dv : Nat) W1 (h : R4 W1 qo no qt nt qr nr qv nv O T R V) (h1 : nt ≤ dt) (h2 : nv ≤ dv) => Check04 qo no do' O qt nt dt T qr nr dr R qv nv dv V W1 h.o h.t h.r h.v h1 h2)
    have HHas4 := Lib.hid (fun (qo : Option Addr) (do' : Nat) (qt : Option Addr) (dt : Nat) (qr : Option Addr) (dr : Nat) (qv : Option Addr) (dv : Nat) W1 (h : R4 W1 qo no qt nt qr nr qv nv O T R V) (h1 : nt ≤ dt) (h2 : nv ≤ dv) => Has04 qo no do' O qt nt dt T qr nr dr R qv nv dv V W1 v u h.o h.t h.r h.v h1 h2)
    have HSame := Lib.hid (fun (qo : Option Addr) (do' : Nat) (qt : Option Addr) (dt : Nat) (qr : Option Addr) (dr : Nat) (qv : Option Addr) (dv : Nat) W1 (h0 : Ext w W1) (h : R4 W1 qo no qt nt qr nr qv nv O T R V) => Same04T po no co O pt nt ct T pr nr cr R pv nv cv V qo no do' qt nt dt qr nr dr qv nv dv W1 (hO.ext h0) (hT.ext h0) (hR.ext h0) (hV.ext h0) h.o h.t h.r h.v)
    clear hO hT hR hV hbig hbd l1 l2 l3 l4
    generalize hasB (checkR O T R V) O T v u = hb at *
    generalize outL (checkR O T R V) O T v = L1 at *
    generalize outL (checkR O T R V) R V v = L2 at *
    generalize outB (checkR O T R V) O v = b1 at *
    generalize outB (checkR O T R V) R v = b2 at *
    generalize edgL (checkR O T R V) O T = L3 at *
    generalize edgC (checkR O T R V) = b3 at *
    generalize checkR O T R V = b4 at *
    go_enter Try.func3, Try.ntmps3
    go_wp2_with (first
      | (go_at_call 14; go_must (refine (HEd4.out qo do' qt dt qr dr qv dv _ (KO.out.ext S7.out.ext) C1 C2).mono ?_; rintro e w8 ⟨q8, c8, rfl, Z⟩; have S8 := Lib.hid (S7.out.comp Z); have x8z := Nat.lt_of_lt_of_le HB.out.lt S8.out.ext.size; have x80 := S8.out.ext.cell (HB.out.cell 0); have x81 := S8.out.ext.cell (HB.out.cell 1); have x82 := S8.out.ext.cell (HB.out.cell 2); have x83 := S8.out.ext.cell (HB.out.cell 3); have y8z := (S8.out.blk 6 rfl).lt; have y80 := (S8.out.blk 6 rfl).cell 0; have y81 := (S8.out.blk 6 rfl).cell 1; have y82 := (S8.out.blk 6 rfl).cell 2; have y83 := (S8.out.blk 6 rfl).cell 3; clear Z))
      | (go_at_call 13; go_must (refine (HEd.out _ (Ext.trans E2.out S6.out.ext)).mono ?_; rintro e w7 ⟨q7, c7, rfl, Z⟩; have S7 := Lib.hid (S6.out.comp Z); have x7z := Nat.lt_of_lt_of_le HB.out.lt S7.out.ext.size; have x70 := S7.out.ext.cell (HB.out.cell 0); have x71 := S7.out.ext.cell (HB.out.cell 1); have x72 := S7.out.ext.cell (HB.out.cell 2); have x73 := S7.out.ext.cell (HB.out.cell 3); have y7z := (S7.out.blk 5 rfl).lt; have y70 := (S7.out.blk 5 rfl).cell 0; have y71 := (S7.out.blk 5 rfl).cell 1; have y72 := (S7.out.blk 5 rfl).cell 2; have y73 := (S7.out.blk 5 rfl).cell 3; clear Z))
      | (go_at_call 12; go_must (refine (HIn4.out qo do' qt dt qr dr qv dv _ (KO.out.ext S5.out.ext) C1 C2).mono ?_; rintro e w6 ⟨q6, c6, rfl, Z⟩; have S6 := Lib.hid (S5.out.comp Z); have x6z := Nat.lt_of_lt_of_le HB.out.lt S6.out.ext.size; have x60 := S6.out.ext.cell (HB.out.cell 0); have x61 := S6.out.ext.cell (HB.out.cell 1); have x62 := S6.out.ext.cell (HB.out.cell 2); have x63 := S6.out.ext.cell (HB.out.cell 3); have y6z := (S6.out.blk 4 rfl).lt; have y60 := (S6.out.blk 4 rfl).cell 0; have y61 := (S6.out.blk 4 rfl).cell 1; have y62 := (S6.out.blk 4 rfl).cell 2; have y63 := (S6.out.blk 4 rfl).cell 3; clear Z))
      | (go_at_call 11; go_must (refine (HIn.out _ (Ext.trans E2.out S4.out.ext)).mono ?_; rintro e w5 ⟨q5, c5, rfl, Z⟩; have S5 := Lib.hid (S4.out.comp Z); have x5z := Nat.lt_of_lt_of_le HB.out.lt S5.out.ext.size; have x50 := S5.out.ext.cell (HB.out.cell 0); have x51 := S5.out.ext.cell (HB.out.cell 1); have x52 := S5.out.ext.cell (HB.out.cell 2); have x53 := S5.out.ext.cell (HB.out.cell 3); have y5z := (S5.out.blk 3 rfl).lt; have y50 := (S5.out.blk 3 rfl).cell 0; have y51 := (S5.out.blk 3 rfl).cell 1; have y52 := (S5.out.blk 3 rfl).cell 2; have y53 := (S5.out.blk 3 rfl).cell 3; clear Z))
      | (go_at_call 10; go_must (refine (HOut4.out qo do' qt dt qr dr qv dv _ (KO.out.ext S3.out.ext) C1 C2).mono ?_; rintro e w4 ⟨q4, c4, rfl, Z⟩; have S4 := Lib.hid (S3.out.comp Z); have x4z := Nat.lt_of_lt_of_le HB.out.lt S4.out.ext.size; have x40 := S4.out.ext.cell (HB.out.cell 0); have x41 := S4.out.ext.cell (HB.out.cell 1); have x42 := S4.out.ext.cell (HB.out.cell 2); have x43 := S4.out.ext.cell (HB.out.cell 3); have y4z := (S4.out.blk 2 rfl).lt; have y40 := (S4.out.blk 2 rfl).cell 0; have y41 := (S4.out.blk 2 rfl).cell 1; have y42 := (S4.out.blk 2 rfl).cell 2; have y43 := (S4.out.blk 2 rfl).cell 3; clear Z))
      | (go_at_call 9; go_must (refine (HOut.out _ (Ext.trans E2.out S2.out.ext)).mono ?_; rintro e w3 ⟨q3, c3, rfl, Z⟩; have S3 := Lib.hid (S2.out.comp Z); have x3z := Nat.lt_of_lt_of_le HB.out.lt S3.out.ext.size; have x30 := S3.out.ext.cell (HB.out.cell 0); have x31 := S3.out.ext.cell (HB.out.cell 1); have x32 := S3.out.ext.cell (HB.out.cell 2); have x33 := S3.out.ext.cell (HB.out.cell 3); have y3z := (S3.out.blk 1 rfl).lt; have y30 := (S3.out.blk 1 rfl).cell 0; have y31 := (S3.out.blk 1 rfl).cell 1; have y32 := (S3.out.blk 1 rfl).cell 2; have y33 := (S3.out.blk 1 rfl).cell 3; clear Z))
      | (go_at_call 8; go_must (refine (HOwn.out _ S1.out.ext).mono ?_; rintro e wo ⟨qo, do', qt, dt, qr, dr, qv, dv, rfl, k1, C1, C2, k2⟩; have KO := Lib.hid k1; have E2 := Lib.hid (Ext.trans S1.out.ext k2); have HB := Lib.hid ((S1.out.call k2).blk 0 rfl); have S2 := Lib.hid ((Sep.start wo).al #[.slice qo no do', .slice qt nt dt, .slice qr nr dr, .slice qv nv dv] 24 wo.heap.size rfl); have x20 := k2.cell x0; have x21 := k2.cell x1; have x22 := k2.cell x2; have x23 := k2.cell x3; have x2z := HB.out.lt; clear k1 k2))
      | (go_at_call 7; go_must (refine (HBig.out _ S0.out.ext).mono ?_; rintro e w1 ⟨rfl, hb1⟩; have S1 := Lib.hid (S0.out.call hb1); have xz := (S1.out.blk 0 rfl).lt; have x0 := (S1.out.blk 0 rfl).cell 0; have x1 := (S1.out.blk 0 rfl).cell 1; have x2 := (S1.out.blk 0 rfl).cell 2; have x3 := (S1.out.blk 0 rfl).cell 3; clear hb1)))
    clear S0 S1 S2 S3 S4 S5 S6 S7 HOut HIn HEd HOut4 HIn4 HEd4 HBig HOwn
    have I1 := Lib.hid (fun x : ExtOf w8 => IntsY _ _ _ _ c3 c4 L1 x.val ((S8.out.rdx 5 rfl).ext x.ext) ((S8.out.rdx 4 rfl).ext x.ext))
    have I2 := Lib.hid (fun x : ExtOf w8 => IntsY _ _ _ _ c5 c6 L2 x.val ((S8.out.rdx 3 rfl).ext x.ext) ((S8.out.rdx 2 rfl).ext x.ext))
    have I3 := Lib.hid (fun x : ExtOf w8 => SameEdgesT _ _ _ c7 c8 L3 x.val ((S8.out.rdx 1 rfl).ext x.ext) ((S8.out.rdx 0 rfl).ext x.ext))
    have J1 := Lib.hid (fun x : ExtOf w8 => HCk.out x.val (Ext.trans (Ext.trans E2.out S8.out.ext) x.ext))
    have J2 := Lib.hid (fun x : ExtOf w8 => HCk4.out qo do' qt dt qr dr qv dv x.val ((KO.out.ext S8.out.ext).ext x.ext) C1 C2)
    have J3 := Lib.hid (fun x : ExtOf w8 => HHas.out x.val (Ext.trans (Ext.trans E2.out S8.out.ext) x.ext))
    have J4 := Lib.hid (fun x : ExtOf w8 => HHas4.out qo do' qt dt qr dr qv dv x.val ((KO.out.ext S8.out.ext).ext x.ext) C1 C2)
    have z0 := fun x : ExtOf w8 => x.ext.cell x80
    have z1 := fun x : ExtOf w8 => x.ext.cell x81
    have z2 := fun x : ExtOf w8 => x.ext.cell x82
    have z3 := fun x : ExtOf w8 => x.ext.cell x83
    have t0 := fun x : ExtOf w8 => x.ext.cell y80
    have t1 := fun x : ExtOf w8 => x.ext.cell y81
    have t2 := fun x : ExtOf w8 => x.ext.cell y82
    have t3 := fun x : ExtOf w8 => x.ext.cell y83
    refine wp_region_ext (by kernel_rfl) (by kernel_rfl) ?_
    repeat (go_big_quiet_step (((first | (go_at_call 15; first | with_reducible exact Calls.ext_of (I1.out _) | with_reducible exact Calls.ext_of (I2.out _)) | (go_at_call 16; exact Calls.ext_of (I3.out _)) | (go_at_call 17; exact Calls.ext_of (J1.out _)) | (go_at_call 18; exact Calls.ext_of (J2.out _)) | (go_at_call 19; exact Calls.ext_of (J3.out _)) | (go_at_call 20; exact Calls.ext_of (J4.out _))))))
    refine wpQuiet_nil ?_
    rintro w9 ⟨⟨_, hb9⟩, rfl⟩
    have S9 := Lib.hid ((S8.out.call hb9).pick [5, 3, 6] (by decide) rfl)
    clear S8 I1 I2 I3 J1 J2 J3 J4 z0 z1 z2 z3 t0 t1 t2 t3 HCk HHas HCk4 HHas4 hb9
    clear x1 x2 x3 x0 xz x20 x21 x22 x23 x2z x30 x31 x32 x33 x3z x40 x41 x42 x43 x4z x50 x51 x52 x53 x5z x60 x61 x62 x63 x6z x70 x71 x72 x73 x7z x80 x81 x82 x83 x8z
    clear y30 y31 y32 y33 y3z y40 y41 y42 y43 y4z y50 y51 y52 y53 y5z y60 y61 y62 y63 y6z y70 y71 y72 y73 y7z y80 y81 y82 y83 y8z
    go_wp2
    go_loopw [21] (fun i wr => ∃ (k : Nat) (xs ys : List Value), k ≤ L1.length ∧ i = .int .i64 k ∧ Sep wo wr [.own 3 1 q3 L1.length c3 xs, .own 3 1 q5 L2.length c5 ys, .blk wo.heap.size 24 #[.slice qo no do', .slice qt nt dt, .slice qr nr dr, .slice qv nv dv]]) (fun i _ => L1.length - (intOf i).toNat)
    case atStart => exact ⟨0, _, _, Nat.zero_le _, rfl, S9.out⟩
    case round =>
      clear S9
      obtain ⟨k, xs, ys, hk, rfl, S⟩ := hrel
      by_cases hlt : k < L1.length
      · have p2 := (S.rdx 0 rfl).ptr
        have p3 := (S.rdx 0 rfl).small
        have k1 := own_frozen (S.own 0 rfl) (by omega) k
        have e1 := own_cell (S.own 0 rfl) (k := k) (by omega)
        have d1 : (0:Int) ≤ k := by omega
        have d2 : (k:Int) < L1.length := by omega
        have SH := Lib.hid S; clear S
        go_wp2
        go_roundw
        case rel => exact ⟨k + 1, _, ys, by omega, by go_num, SH.out.setRow 0 rfl k (by omega) _⟩
        case measure => simp [intOf]; omega
      · have SH := Lib.hid S; clear S
        go_wp2
        go_loopw [22] (fun i wr => ∃ (k : Nat) (xs ys : List Value), k ≤ L2.length ∧ i = .int .i64 k ∧ Sep wo wr [.own 3 1 q3 L1.length c3 xs, .own 3 1 q5 L2.length c5 ys, .blk wo.heap.size 24 #[.slice qo no do', .slice qt nt dt, .slice qr nr dr, .slice qv nv dv]]) (fun i _ => L2.length - (intOf i).toNat)
        case atStart => exact ⟨0, xs, ys, Nat.zero_le _, rfl, SH.out⟩
        case round =>
          clear SH hlt
          obtain ⟨k, xs, ys, hk, rfl, S⟩ := hrel
          by_cases hlt : k < L2.length
          · have p2 := (S.rdx 1 rfl).ptr
            have p3 := (S.rdx 1 rfl).small
            have k1 := own_frozen (S.own 1 rfl) (by omega) k
            have e1 := own_cell (S.own 1 rfl) (k := k) (by omega)
            have d1 : (0:Int) ≤ k := by omega
            have d2 : (k:Int) < L2.length := by omega
            have SH := Lib.hid S; clear S
            go_wp2
            go_roundw
            case rel => exact ⟨k + 1, xs, _, by omega, by go_num, SH.out.setRow 1 rfl k (by omega) _⟩
            case measure => simp [intOf]; omega
          · have SH := Lib.hid S; clear S
            go_wp2_with (first
              | (go_at_call 22; go_must (refine (HSame.out qo do' qt dt qr dr qv dv _ (Ext.trans E2.out P1.out.ext) (KO.out.ext P1.out.ext)).mono ?_; rintro e w11 ⟨rfl, hb⟩; have P2 := Lib.hid (P1.out.call hb); clear hb))
              | (go_at_call 21; go_must (refine (Told _).mono ?_; rintro e w10 ⟨rfl, hb⟩; have P1 := Lib.hid (SH.out.call hb); have xz := Nat.lt_of_lt_of_le HB.out.lt P1.out.ext.size; have x0 := P1.out.ext.cell (HB.out.cell 0); have x1 := P1.out.ext.cell (HB.out.cell 1); have x2 := P1.out.ext.cell (HB.out.cell 2); have x3 := P1.out.ext.cell (HB.out.cell 3); have yz := (P1.out.blk 2 rfl).lt; have y0 := (P1.out.blk 2 rfl).cell 0; have y1 := (P1.out.blk 2 rfl).cell 1; have y2 := (P1.out.blk 2 rfl).cell 2; have y3 := (P1.out.blk 2 rfl).cell 3; clear hb)))
            go_ret
            exact ⟨rfl, Ext.trans E2.out P2.out.ext⟩
end Go.Proofs.Ytgnjffnkmdodeaa
/- The law DistHalf: Dist is 2 times Steps, or one less, if there is a walk; Steps is no more than places. -/
namespace Go.Proofs.Ytgnjffnkmdodeaa
open Go Go.RowKit
theorem pairC_zero {ck : Bool} {O : List Int} {s t : Int} (h : pairC ck O s t = 0) : ck = true ∧ ∃ n a b : Nat, O.length = n + 1 ∧ s = a ∧ t = b ∧ a < n ∧ b < n := by
  unfold pairC at h
  cases ck with
  | false => rw [if_neg (by simp)] at h; omega
  | true =>
    rw [if_pos rfl] at h
    by_cases h2 : (0 ≤ s ∧ s < (O.length : Int) - 1) ∧ 0 ≤ t ∧ t < (O.length : Int) - 1
    · exact ⟨rfl, O.length - 1, s.toNat, t.toNat, by omega, by omega, by omega, by omega, by omega⟩
    · rw [if_neg h2] at h; omega
theorem pairC_nn {ck : Bool} {O : List Int} {s t : Int} : 0 ≤ pairC ck O s t ∧ pairC ck O s t ≤ 40 := by
  unfold pairC; split
  · split <;> omega
  · omega
set_option maxRecDepth 100000 in
set_option maxHeartbeats 8000000 in
theorem lawHalf (po : Option Addr) (no co : Nat) (O : List Int) (pt : Option Addr) (nt ct : Nat) (T : List Int) (pr : Option Addr) (nr cr : Nat) (R : List Int) (pv : Option Addr) (nv cv : Nat) (V : List Int) (s t : Int) (w : World) (hO : Rd w 1 po no (encI O)) (hT : Rd w 1 pt nt (encI T)) (hR : Rd w 1 pr nr (encI R)) (hV : Rd w 1 pv nv (encI V)) (hct : nt ≤ ct) (hcv : nv ≤ cv) : Calls Try.prog 4 #[.agg #[.slice po no co, .slice pt nt ct, .slice pr nr cr, .slice pv nv cv], .int .i64 s, .int .i64 t] w fun e w' => e = .returned (.bool true) ∧ Ext w w' := by
  have HBig := Lib.hid (fun W1 (h : Ext w W1) => Big04 po no co O pt nt ct T pr nr cr R pv nv cv V W1 (hO.ext h) (hT.ext h) (hR.ext h) (hV.ext h))
  have S0 := Lib.hid ((Sep.start w).al #[.slice po no co, .slice pt nt ct, .slice pr nr cr, .slice pv nv cv] 24 w.heap.size rfl)
  cases hbig : bigR O T R V with
  | true =>
    rw [hbig] at HBig
    clear hO hT hR hV
    go_enter Try.func4, Try.ntmps4
    go_wp2_with (go_at_call 7; go_must (refine (HBig.out _ S0.out.ext).mono ?_; rintro e w1 ⟨rfl, hb1⟩; have S1 := Lib.hid (S0.out.call hb1); have xz := (S1.out.blk 0 rfl).lt; have x0 := (S1.out.blk 0 rfl).cell 0; have x1 := (S1.out.blk 0 rfl).cell 1; have x2 := (S1.out.blk 0 rfl).cell 2; have x3 := (S1.out.blk 0 rfl).cell 3; clear hb1))
    go_ret
    exact ⟨rfl, S1.out.ext⟩
  | false =>
    rw [hbig] at HBig
    clear hbig
    by_cases hc : pairC (checkR O T R V) O s t = 0
    · obtain ⟨hck, n, a, b, hno, rfl, rfl, ha, hb⟩ := pairC_zero hc
      have HD := Lib.hid (fun W1 (h : Ext w W1) => DistG_yes po no co O pt nt ct T pr nr cr R pv nv cv V n a b W1 (hO.ext h) (hT.ext h) (hR.ext h) (hV.ext h) hct hcv hck hno ha hb)
      have HS := Lib.hid (fun W1 (h : Ext w W1) => StepsG_yes po no co O pt nt ct T pr nr cr R pv nv cv V n a b W1 (hO.ext h) (hT.ext h) (hR.ext h) (hV.ext h) hct hcv hck hno ha hb)
      have hrev : Rev (rowL O T) (rowL R V) n := by have := nxR_rev hck false; rw [hno] at this; exact this
      obtain ⟨q1, q2⟩ := half_law hrev ha hb
      have l1 := hO.nI
      have r := offB_parts (halfB_off (checkR_half hck).2.2.1)
      generalize stepsN n (lev (rowL O T) n a) (lev (rowL R V) n b) = K at *
      generalize lev (rowL O T) n a b = D at *
      have g1 : (K:Int) < no := by omega
      have g2 : K ≤ 200 := by omega
      clear hO hT hR hV hct hcv hck hrev hc l1 r hno ha hb
      by_cases h0 : 0 ≤ D
      · have HDB : distN D = D ∧ distB D = true := by unfold distN distB; rw [if_pos h0]; exact ⟨rfl, by simpa using h0⟩
        rw [HDB.1, HDB.2] at HD
        have q3 := q2 h0
        clear q1 q2 HDB
        by_cases h1 : D = 2 * (K:Int)
        · have c1 : (D == 2 * (K:Int)) = true := by simpa using h1
          clear h1 q3
          go_enter Try.func4, Try.ntmps4
          go_wp2_with (first | (go_at_call 25; go_must (refine (Dists _).mono ?_; rintro e wz ⟨rfl, hb⟩; have SZ := Lib.hid (S3.out.call hb); have zz := (SZ.out.blk 0 rfl).lt; have z0 := (SZ.out.blk 0 rfl).cell 0; have z1 := (SZ.out.blk 0 rfl).cell 1; have z2 := (SZ.out.blk 0 rfl).cell 2; have z3 := (SZ.out.blk 0 rfl).cell 3; clear hb)) | (go_at_call 24; go_must (refine (HS.out _ S2.out.ext).mono ?_; rintro e w3 ⟨rfl, hb⟩; have S3 := Lib.hid (S2.out.call hb); have vz := (S3.out.blk 0 rfl).lt; have v0 := (S3.out.blk 0 rfl).cell 0; have v1 := (S3.out.blk 0 rfl).cell 1; have v2 := (S3.out.blk 0 rfl).cell 2; have v3 := (S3.out.blk 0 rfl).cell 3; clear hb)) | (go_at_call 23; go_must (refine (HD.out _ S1.out.ext).mono ?_; rintro e w2 ⟨rfl, hb⟩; have S2 := Lib.hid (S1.out.call hb); have yz := (S2.out.blk 0 rfl).lt; have y0 := (S2.out.blk 0 rfl).cell 0; have y1 := (S2.out.blk 0 rfl).cell 1; have y2 := (S2.out.blk 0 rfl).cell 2; have y3 := (S2.out.blk 0 rfl).cell 3; clear hb)) | (go_at_call 7; go_must (refine (HBig.out _ S0.out.ext).mono ?_; rintro e w1 ⟨rfl, hb1⟩; have S1 := Lib.hid (S0.out.call hb1); have xz := (S1.out.blk 0 rfl).lt; have x0 := (S1.out.blk 0 rfl).cell 0; have x1 := (S1.out.blk 0 rfl).cell 1; have x2 := (S1.out.blk 0 rfl).cell 2; have x3 := (S1.out.blk 0 rfl).cell 3; clear hb1)))
          go_ret
          exact ⟨rfl, SZ.out.ext⟩
        · have c1 : (D == 2 * (K:Int)) = false := by simpa using h1
          have c2 : (D == 2 * (K:Int) - 1) = true := by rw [beq_iff_eq]; omega
          clear h1 q3
          go_enter Try.func4, Try.ntmps4
          go_wp2_with (first | (go_at_call 25; go_must (refine (Dists _).mono ?_; rintro e wz ⟨rfl, hb⟩; have SZ := Lib.hid (S3.out.call hb); have zz := (SZ.out.blk 0 rfl).lt; have z0 := (SZ.out.blk 0 rfl).cell 0; have z1 := (SZ.out.blk 0 rfl).cell 1; have z2 := (SZ.out.blk 0 rfl).cell 2; have z3 := (SZ.out.blk 0 rfl).cell 3; clear hb)) | (go_at_call 24; go_must (refine (HS.out _ S2.out.ext).mono ?_; rintro e w3 ⟨rfl, hb⟩; have S3 := Lib.hid (S2.out.call hb); have vz := (S3.out.blk 0 rfl).lt; have v0 := (S3.out.blk 0 rfl).cell 0; have v1 := (S3.out.blk 0 rfl).cell 1; have v2 := (S3.out.blk 0 rfl).cell 2; have v3 := (S3.out.blk 0 rfl).cell 3; clear hb)) | (go_at_call 23; go_must (refine (HD.out _ S1.out.ext).mono ?_; rintro e w2 ⟨rfl, hb⟩; have S2 := Lib.hid (S1.out.call hb); have yz := (S2.out.blk 0 rfl).lt; have y0 := (S2.out.blk 0 rfl).cell 0; have y1 := (S2.out.blk 0 rfl).cell 1; have y2 := (S2.out.blk 0 rfl).cell 2; have y3 := (S2.out.blk 0 rfl).cell 3; clear hb)) | (go_at_call 7; go_must (refine (HBig.out _ S0.out.ext).mono ?_; rintro e w1 ⟨rfl, hb1⟩; have S1 := Lib.hid (S0.out.call hb1); have xz := (S1.out.blk 0 rfl).lt; have x0 := (S1.out.blk 0 rfl).cell 0; have x1 := (S1.out.blk 0 rfl).cell 1; have x2 := (S1.out.blk 0 rfl).cell 2; have x3 := (S1.out.blk 0 rfl).cell 3; clear hb1)))
          go_ret
          exact ⟨rfl, SZ.out.ext⟩
      · have HDB : distN D = 0 ∧ distB D = false := by unfold distN distB; rw [if_neg h0]; exact ⟨rfl, by simp; omega⟩
        rw [HDB.1, HDB.2] at HD
        clear q1 q2 HDB h0
        go_enter Try.func4, Try.ntmps4
        go_wp2_with (first | (go_at_call 25; go_must (refine (Dists _).mono ?_; rintro e wz ⟨rfl, hb⟩; have SZ := Lib.hid (S3.out.call hb); have zz := (SZ.out.blk 0 rfl).lt; have z0 := (SZ.out.blk 0 rfl).cell 0; have z1 := (SZ.out.blk 0 rfl).cell 1; have z2 := (SZ.out.blk 0 rfl).cell 2; have z3 := (SZ.out.blk 0 rfl).cell 3; clear hb)) | (go_at_call 24; go_must (refine (HS.out _ S2.out.ext).mono ?_; rintro e w3 ⟨rfl, hb⟩; have S3 := Lib.hid (S2.out.call hb); have vz := (S3.out.blk 0 rfl).lt; have v0 := (S3.out.blk 0 rfl).cell 0; have v1 := (S3.out.blk 0 rfl).cell 1; have v2 := (S3.out.blk 0 rfl).cell 2; have v3 := (S3.out.blk 0 rfl).cell 3; clear hb)) | (go_at_call 23; go_must (refine (HD.out _ S1.out.ext).mono ?_; rintro e w2 ⟨rfl, hb⟩; have S2 := Lib.hid (S1.out.call hb); have yz := (S2.out.blk 0 rfl).lt; have y0 := (S2.out.blk 0 rfl).cell 0; have y1 := (S2.out.blk 0 rfl).cell 1; have y2 := (S2.out.blk 0 rfl).cell 2; have y3 := (S2.out.blk 0 rfl).cell 3; clear hb)) | (go_at_call 7; go_must (refine (HBig.out _ S0.out.ext).mono ?_; rintro e w1 ⟨rfl, hb1⟩; have S1 := Lib.hid (S0.out.call hb1); have xz := (S1.out.blk 0 rfl).lt; have x0 := (S1.out.blk 0 rfl).cell 0; have x1 := (S1.out.blk 0 rfl).cell 1; have x2 := (S1.out.blk 0 rfl).cell 2; have x3 := (S1.out.blk 0 rfl).cell 3; clear hb1)))
        go_ret
        exact ⟨rfl, SZ.out.ext⟩
    · have HD := Lib.hid (fun W1 (h : Ext w W1) => DistG_no po no co O pt nt ct T pr nr cr R pv nv cv V s t W1 (hO.ext h) (hT.ext h) (hR.ext h) (hV.ext h) hct hcv hc)
      have HS := Lib.hid (fun W1 (h : Ext w W1) => StepsG_no po no co O pt nt ct T pr nr cr R pv nv cv V s t W1 (hO.ext h) (hT.ext h) (hR.ext h) (hV.ext h) hct hcv hc)
      generalize pairC (checkR O T R V) O s t = c at *
      have hc0 : (c != 0) = true := by simpa using hc
      clear hO hT hR hV hct hcv hc
      go_enter Try.func4, Try.ntmps4
      go_wp2_with (first | (go_at_call 25; go_must (refine (Dists _).mono ?_; rintro e wz ⟨rfl, hb⟩; have SZ := Lib.hid (S3.out.call hb); have zz := (SZ.out.blk 0 rfl).lt; have z0 := (SZ.out.blk 0 rfl).cell 0; have z1 := (SZ.out.blk 0 rfl).cell 1; have z2 := (SZ.out.blk 0 rfl).cell 2; have z3 := (SZ.out.blk 0 rfl).cell 3; clear hb)) | (go_at_call 24; go_must (refine (HS.out _ S2.out.ext).mono ?_; rintro e w3 ⟨rfl, hb⟩; have S3 := Lib.hid (S2.out.call hb); have vz := (S3.out.blk 0 rfl).lt; have v0 := (S3.out.blk 0 rfl).cell 0; have v1 := (S3.out.blk 0 rfl).cell 1; have v2 := (S3.out.blk 0 rfl).cell 2; have v3 := (S3.out.blk 0 rfl).cell 3; clear hb)) | (go_at_call 23; go_must (refine (HD.out _ S1.out.ext).mono ?_; rintro e w2 ⟨rfl, hb⟩; have S2 := Lib.hid (S1.out.call hb); have yz := (S2.out.blk 0 rfl).lt; have y0 := (S2.out.blk 0 rfl).cell 0; have y1 := (S2.out.blk 0 rfl).cell 1; have y2 := (S2.out.blk 0 rfl).cell 2; have y3 := (S2.out.blk 0 rfl).cell 3; clear hb)) | (go_at_call 7; go_must (refine (HBig.out _ S0.out.ext).mono ?_; rintro e w1 ⟨rfl, hb1⟩; have S1 := Lib.hid (S0.out.call hb1); have xz := (S1.out.blk 0 rfl).lt; have x0 := (S1.out.blk 0 rfl).cell 0; have x1 := (S1.out.blk 0 rfl).cell 1; have x2 := (S1.out.blk 0 rfl).cell 2; have x3 := (S1.out.blk 0 rfl).cell 3; clear hb1)))
      go_ret
      exact ⟨rfl, SZ.out.ext⟩
end Go.Proofs.Ytgnjffnkmdodeaa
/- The law DistLess: no lesser next place leads on in as few steps. -/
namespace Go.Proofs.Ytgnjffnkmdodeaa
open Go Go.RowKit
theorem Rises.nodup8 {l : List Int} (h : Rises ltI l) : l.Nodup := List.Pairwise.imp (fun {a b} hab e => by subst e; have := stoI.irrefl a; rw [hab] at this; cases this) h
/-- what Dist tells -/
theorem DistG_any (po : Option Addr) (no co : Nat) (O : List Int) (pt : Option Addr) (nt ct : Nat) (T : List Int) (pr : Option Addr) (nr cr : Nat) (R : List Int) (pv : Option Addr) (nv cv : Nat) (V : List Int) (n : Nat) (s : Int) (t : Nat) (w : World) (hO : Rd w 1 po no (encI O)) (hT : Rd w 1 pt nt (encI T)) (hR : Rd w 1 pr nr (encI R)) (hV : Rd w 1 pv nv (encI V)) (hct : nt ≤ ct) (hcv : nv ≤ cv) (hck : checkR O T R V = true) (hno : O.length = n + 1) (hs0 : 0 ≤ s) (hs : s < n) (ht : t < n) :
    Calls Try.prog 23 #[.agg #[.slice po no co, .slice pt nt ct, .slice pr nr cr, .slice pv nv cv], .int .i64 s, .int .i64 t] w fun e w' => e = .returned (.tuple #[.int .i64 (distN (lev (rowL O T) n s.toNat t)), .bool (distB (lev (rowL O T) n s.toNat t)), .int .i64 0]) ∧ Ext w w' := by
  obtain ⟨a, rfl⟩ : ∃ a : Nat, s = (a : Int) := ⟨s.toNat, by omega⟩
  exact DistG_yes po no co O pt nt ct T pr nr cr R pv nv cv V n a t w hO hT hR hV hct hcv hck hno (by omega) ht
structure LessQ (d : Int) (b : Bool) (i : Nat) (v : Value) (_ : World) : Prop where
  a : i = 6 → v = .tuple #[.int .i64 d, .bool b, .int .i64 0]
  b' : i = 7 → v = .tuple #[.int .i64 d, .bool b, .int .i64 0]
  c1 : i = 8 → v = .int .i64 d
  c2 : i = 9 → v = .bool b
  c3 : i = 10 → v = .int .i64 0
  d1 : i = 11 → v = .int .i64 d
  d2 : i = 12 → v = .bool b
  d3 : i = 13 → v = .int .i64 0
theorem LessQ.of {d : Int} {b : Bool} {i : Nat} {v : Value} {w : World} (h : (i = 6 ∨ i = 7) ∧ v = .tuple #[.int .i64 d, .bool b, .int .i64 0] ∨ (i = 8 ∨ i = 11) ∧ v = .int .i64 d ∨ (i = 9 ∨ i = 12) ∧ v = .bool b ∨ (i = 10 ∨ i = 13) ∧ v = .int .i64 0) : LessQ d b i v w := by
  rcases h with ⟨h, rfl⟩ | ⟨h, rfl⟩ | ⟨h, rfl⟩ | ⟨h, rfl⟩
  all_goals
    constructor <;> intro h2 <;> first | rfl | (exfalso; omega)
set_option maxRecDepth 100000 in
set_option maxHeartbeats 8000000 in
theorem lawLess8 (po : Option Addr) (no co : Nat) (O : List Int) (pt : Option Addr) (nt ct : Nat) (T : List Int) (pr : Option Addr) (nr cr : Nat) (R : List Int) (pv : Option Addr) (nv cv : Nat) (V : List Int) (s t : Int) (w : World) (hO : Rd w 1 po no (encI O)) (hT : Rd w 1 pt nt (encI T)) (hR : Rd w 1 pr nr (encI R)) (hV : Rd w 1 pv nv (encI V)) (hct : nt ≤ ct) (hcv : nv ≤ cv) : Calls Try.prog 6 #[.agg #[.slice po no co, .slice pt nt ct, .slice pr nr cr, .slice pv nv cv], .int .i64 s, .int .i64 t] w fun e w' => e = .returned (.bool true) ∧ Ext w w' := by
  have HBig := Lib.hid (fun W1 (h : Ext w W1) => Big04 po no co O pt nt ct T pr nr cr R pv nv cv V W1 (hO.ext h) (hT.ext h) (hR.ext h) (hV.ext h))
  have S0 := Lib.hid ((Sep.start w).al #[.slice po no co, .slice pt nt ct, .slice pr nr cr, .slice pv nv cv] 24 w.heap.size rfl)
  cases hbig : bigR O T R V with
  | true =>
    rw [hbig] at HBig
    clear hO hT hR hV
    go_enter Try.func6, Try.ntmps6
    go_wp2_with (go_at_call 7; go_must (refine (HBig.out _ S0.out.ext).mono ?_; rintro e w1 ⟨rfl, hb1⟩; have S1 := Lib.hid (S0.out.call hb1); have xz := (S1.out.blk 0 rfl).lt; have x0 := (S1.out.blk 0 rfl).cell 0; have x1 := (S1.out.blk 0 rfl).cell 1; have x2 := (S1.out.blk 0 rfl).cell 2; have x3 := (S1.out.blk 0 rfl).cell 3; clear hb1))
    go_ret
    exact ⟨rfl, S1.out.ext⟩
  | false =>
    rw [hbig] at HBig
    clear hbig
    by_cases hc : pairC (checkR O T R V) O s t = 0
    · obtain ⟨hck, n, a, b, hno, rfl, rfl, ha, hb⟩ := pairC_zero hc
      have HP := Lib.hid (fun W1 (h : Ext w W1) => PathG_yes po no co O pt nt ct T pr nr cr R pv nv cv V n a b W1 (hO.ext h) (hT.ext h) (hR.ext h) (hV.ext h) hct hcv hck hno ha hb)
      have HD := Lib.hid (fun (x : Int) (h0 : 0 ≤ x) (h1 : x < n) W1 (h : Ext w W1) => DistG_any po no co O pt nt ct T pr nr cr R pv nv cv V n x b W1 (hO.ext h) (hT.ext h) (hR.ext h) (hV.ext h) hct hcv hck hno h0 h1 hb)
      have HO := Lib.hid (fun W1 (h : Ext w W1) => OutG po no co O pt nt ct T pr nr cr R pv nv cv V W1 a (hO.ext h) (hT.ext h) (hR.ext h) (hV.ext h) hct hcv)
      have oB : outB true O a = true := by unfold outB; simp; omega
      rw [hck, oB, outL_yes oB, Int.toNat_natCast] at HO
      have hrev : Rev (rowL O T) (rowL R V) n := by have := nxR_rev hck false; rw [hno] at this; exact this
      have hin : InN (rowL O T) n := by have := nxR_in hck false; rw [hno] at this; exact this
      have hri : Rises ltI (rowL O T a) := row_rises8 hck false (by omega)
      have l1 := hO.nI
      have r := offB_parts (halfB_off (checkR_half hck).2.2.1)
      have hn : n ≤ 200 := by omega
      have hll := nodup_small (n := n) (Rises.nodup8 hri) (hin a ha)
      have HL := Lib.hid (fun h0 h2 y hy hlt => less_law hrev hin ha hb h0 hri h2 (y := y) hy hlt)
      have HIN := Lib.hid (hin a ha)
      have hpl : (pathR (rowL O T) (rowL R V) n a b).length ≤ n + 1 := by
        by_cases h0 : 0 ≤ lev (rowL O T) n a b
        · have := (path_law hrev hin ha hb h0).2.1
          have := lev_lt (nx := rowL O T) ha hb
          omega
        · unfold pathR; rw [if_neg h0]; simp
      have hdb : distB (lev (rowL O T) n a b) = true → 0 ≤ lev (rowL O T) n a b := by unfold distB; simp
      generalize hl : rowL O T a = l at *
      generalize pathR (rowL O T) (rowL R V) n a b = P at *
      generalize hdd : distB (lev (rowL O T) n a b) = db at *
      clear hO hT hR hV hct hcv hck hrev hin hri hc l1 r hno oB hl
      by_cases hsh : db = true ∧ 1 < P.length
      · obtain ⟨rfl, hp1⟩ := hsh
        have H0 := Lib.hid (hdb rfl)
        have c1 : decide ((P.length : Int) < 2) = false := by simp; omega
        clear hdb hdd
        go_enter Try.func6, Try.ntmps6
        go_wp2_with (first
          | (go_at_call 9; go_must (refine (HO.out _ S2.out.ext).mono ?_; rintro e w3 ⟨q3, c3, rfl, Z⟩; have S3 := Lib.hid (S2.out.comp Z); clear Z))
          | (go_at_call 26; go_must (refine (HP.out _ S1.out.ext).mono ?_; rintro e w2 ⟨q2, c2, rfl, Z⟩; have S2 := Lib.hid (S1.out.comp Z); have yz := (S2.out.blk 1 rfl).lt; have y0 := (S2.out.blk 1 rfl).cell 0; have y1 := (S2.out.blk 1 rfl).cell 1; have y2 := (S2.out.blk 1 rfl).cell 2; have y3 := (S2.out.blk 1 rfl).cell 3; clear Z)) | (go_at_call 7; go_must (refine (HBig.out _ S0.out.ext).mono ?_; rintro e w1 ⟨rfl, hb1⟩; have S1 := Lib.hid (S0.out.call hb1); have xz := (S1.out.blk 0 rfl).lt; have x0 := (S1.out.blk 0 rfl).cell 0; have x1 := (S1.out.blk 0 rfl).cell 1; have x2 := (S1.out.blk 0 rfl).cell 2; have x3 := (S1.out.blk 0 rfl).cell 3; clear hb1)))
        go_loopw [12, 13, 14, 15] (fun i _ _ _ wr => ∃ k : Nat, k ≤ l.length ∧ i = .int .i64 k ∧ Sep w wr [.own 3 1 q3 l.length c3 (encI l), .own 3 1 q2 P.length c2 (encI P), .blk w.heap.size 24 #[.slice po no co, .slice pt nt ct, .slice pr nr cr, .slice pv nv cv]]) (fun i _ _ _ _ => l.length - (intOf i).toNat)
        case atStart => exact ⟨0, Nat.zero_le _, rfl, S3.out⟩
        case round =>
          clear S0 S1 S2 S3
          obtain ⟨k, hk, rfl, S⟩ := hrel
          have yz := (S.blk 2 rfl).lt; have y0 := (S.blk 2 rfl).cell 0; have y1 := (S.blk 2 rfl).cell 1; have y2 := (S.blk 2 rfl).cell 2; have y3 := (S.blk 2 rfl).cell 3
          have p3 := (S.rd 0 rfl (by omega)).ptr
          have p2 := (S.rd 1 rfl (by omega)).ptr
          have g2 := (S.rd 1 rfl (by omega)).cI (k := 1) (by omega)
          by_cases hlt : k < l.length
          · have g1 := (S.rd 0 rfl (by omega)).cI hlt
            have hm := nth_mem hlt
            have hx := HIN.out _ hm
            have e1 : (0:Int) ≤ k := by omega
            have e2 : (k:Int) < l.length := by omega
            have e3 : (1:Int) < P.length := by omega
            obtain ⟨x, hxe⟩ : ∃ x, x = nth l k := ⟨_, rfl⟩
            obtain ⟨z, hze⟩ : ∃ z, z = nth P 1 := ⟨_, rfl⟩
            rw [← hxe] at g1 hx hm
            rw [← hze] at g2
            have HXE := Lib.hid hxe
            have HL2 := Lib.hid (fun h => HL.out H0.out hp1 x hm h)
            rw [← hze] at HL2
            clear hxe hze hm
            by_cases hls : x < z
            · obtain ⟨_, _, hless⟩ := HL2.out hls
              have HDx := Lib.hid (HD.out x hx.1 hx.2)
              have d1 : decide (x < z) = true := by simpa using hls
              generalize lev (rowL O T) n x.toNat b = e at *
              clear HL2 HL HD
              by_cases he : 0 ≤ e
              · have HDB : distN e = e ∧ distB e = true := by unfold distN distB; rw [if_pos he]; exact ⟨rfl, by simpa using he⟩
                rw [HDB.1, HDB.2] at HDx
                have f1 : decide (e < (P.length:Int) - 1) = false := by have := hless he; simp; omega
                clear HDB hless he
                have SH := Lib.hid S; clear S
                go_wp2
                have u2 := fun x : ExtOf wr => x.ext.cell g2
                have u1 := fun x : ExtOf wr => x.ext.cell g1
                refine wp_region_ext (by kernel_rfl) (by kernel_rfl) ?_
                repeat (go_big_quiet_step ((fail)))
                refine wpQuiet_nil ?_
                rintro w9 ⟨⟨_, hb9⟩, rfl⟩
                have S4 := Lib.hid (SH.out.call hb9)
                clear u1 u2 g1 g2 hb9 y0 y1 y2 y3 yz
                have g1 := (S4.out.rd 0 rfl (by omega)).cI hlt
                rw [← HXE.out] at g1
                have yz := (S4.out.blk 2 rfl).lt; have y0 := (S4.out.blk 2 rfl).cell 0; have y1 := (S4.out.blk 2 rfl).cell 1; have y2 := (S4.out.blk 2 rfl).cell 2; have y3 := (S4.out.blk 2 rfl).cell 3
                go_wp2
                have u0 := fun x : ExtOf w9 => x.ext.cell y0
                have u1 := fun x : ExtOf w9 => x.ext.cell y1
                have u2 := fun x : ExtOf w9 => x.ext.cell y2
                have u3 := fun x : ExtOf w9 => x.ext.cell y3
                have u4 := fun x : ExtOf w9 => x.ext.cell g1
                refine wp_region_mix [true, true, true, true, true, true, false, false, false, false, false, false, false, false] (LessQ e true) (by kernel_rfl) (by kernel_rfl) (by kernel_rfl) (fun _ _ _ _ _ h => ⟨h.a, h.b', h.c1, h.c2, h.c3, h.d1, h.d2, h.d3⟩) ?_
                simp only [nfM]
                repeat (go_big_quiet_step ((fail)))
                refine wpQuiet_nil ⟨⟨fun vs W1 hE hd => ?_, fun vs W1 hE hd => ?_, fun vs W1 hE hd => ?_, fun vs W1 hE hd => ?_, fun vs W1 hE hd => ?_, fun vs W1 hE hd => ?_, fun vs W1 hE hd => ?_, fun vs W1 hE hd => ?_, trivial⟩, fun vs W1 hE hkn => ?_⟩
                · (simp [putM, execOp, go_sem]; exact (HDx.out _ (Ext.trans S4.out.ext hE)).mono fun e w' ⟨h1, h2⟩ => ⟨_, h1, LessQ.of (by simp), h2⟩)
                · (have k1 := LessQ.a (hd 6 (by decide +kernel) rfl) rfl; simp [putM, execOp, go_sem, k1]; exact ⟨LessQ.of (by simp), Below.refl _ _⟩)
                · (have k1 := LessQ.b' (hd 7 (by decide +kernel) rfl) rfl; simp [putM, execOp, go_sem, k1]; exact ⟨LessQ.of (by simp), Below.refl _ _⟩)
                · (have k1 := LessQ.b' (hd 7 (by decide +kernel) rfl) rfl; simp [putM, execOp, go_sem, k1]; exact ⟨LessQ.of (by simp), Below.refl _ _⟩)
                · (have k1 := LessQ.b' (hd 7 (by decide +kernel) rfl) rfl; simp [putM, execOp, go_sem, k1]; exact ⟨LessQ.of (by simp), Below.refl _ _⟩)
                · (have k1 := LessQ.c1 (hd 8 (by decide +kernel) rfl) rfl; simp [putM, execOp, go_sem, k1]; exact ⟨LessQ.of (by simp), Below.refl _ _⟩)
                · (have k1 := LessQ.c2 (hd 9 (by decide +kernel) rfl) rfl; simp [putM, execOp, go_sem, k1]; exact ⟨LessQ.of (by simp), Below.refl _ _⟩)
                · (have k1 := LessQ.c3 (hd 10 (by decide +kernel) rfl) rfl; simp [putM, execOp, go_sem, k1]; exact ⟨LessQ.of (by simp), Below.refl _ _⟩)
                simp only [knowM] at hkn
                have k1 := LessQ.d1 hkn.2.2.2.2.2.1 rfl
                have k2 := LessQ.d2 hkn.2.2.2.2.2.2.1 rfl
                have k3 := LessQ.d3 hkn.2.2.2.2.2.2.2.1 rfl
                have S5 := Lib.hid (S4.out.call hE)
                simp only [putM, k1, k2, k3, List.length_cons, List.length_nil, Nat.zero_add, Nat.reduceAdd, List.drop_succ_cons, List.drop_zero]
                clear u0 u1 u2 u3 u4 k1 k2 k3 hE y0 y1 y2 y3 yz g1 hkn
                go_wp2
                go_roundw
                case rel => exact ⟨k + 1, by omega, by go_num, S5.out⟩
                case measure => simp [intOf]; omega
              · have HDB : distN e = 0 ∧ distB e = false := by unfold distN distB; rw [if_neg he]; exact ⟨rfl, by simp; omega⟩
                rw [HDB.1, HDB.2] at HDx
                clear HDB hless he
                have SH := Lib.hid S; clear S
                go_wp2
                have u2 := fun x : ExtOf wr => x.ext.cell g2
                have u1 := fun x : ExtOf wr => x.ext.cell g1
                refine wp_region_ext (by kernel_rfl) (by kernel_rfl) ?_
                repeat (go_big_quiet_step ((fail)))
                refine wpQuiet_nil ?_
                rintro w9 ⟨⟨_, hb9⟩, rfl⟩
                have S4 := Lib.hid (SH.out.call hb9)
                clear u1 u2 g1 g2 hb9 y0 y1 y2 y3 yz
                have g1 := (S4.out.rd 0 rfl (by omega)).cI hlt
                rw [← HXE.out] at g1
                have yz := (S4.out.blk 2 rfl).lt; have y0 := (S4.out.blk 2 rfl).cell 0; have y1 := (S4.out.blk 2 rfl).cell 1; have y2 := (S4.out.blk 2 rfl).cell 2; have y3 := (S4.out.blk 2 rfl).cell 3
                go_wp2
                have u0 := fun x : ExtOf w9 => x.ext.cell y0
                have u1 := fun x : ExtOf w9 => x.ext.cell y1
                have u2 := fun x : ExtOf w9 => x.ext.cell y2
                have u3 := fun x : ExtOf w9 => x.ext.cell y3
                have u4 := fun x : ExtOf w9 => x.ext.cell g1
                refine wp_region_mix [true, true, true, true, true, true, false, false, false, false, false, false, false, false] (LessQ 0 false) (by kernel_rfl) (by kernel_rfl) (by kernel_rfl) (fun _ _ _ _ _ h => ⟨h.a, h.b', h.c1, h.c2, h.c3, h.d1, h.d2, h.d3⟩) ?_
                simp only [nfM]
                repeat (go_big_quiet_step ((fail)))
                refine wpQuiet_nil ⟨⟨fun vs W1 hE hd => ?_, fun vs W1 hE hd => ?_, fun vs W1 hE hd => ?_, fun vs W1 hE hd => ?_, fun vs W1 hE hd => ?_, fun vs W1 hE hd => ?_, fun vs W1 hE hd => ?_, fun vs W1 hE hd => ?_, trivial⟩, fun vs W1 hE hkn => ?_⟩
                · (simp [putM, execOp, go_sem]; exact (HDx.out _ (Ext.trans S4.out.ext hE)).mono fun e w' ⟨h1, h2⟩ => ⟨_, h1, LessQ.of (by simp), h2⟩)
                · (have k1 := LessQ.a (hd 6 (by decide +kernel) rfl) rfl; simp [putM, execOp, go_sem, k1]; exact ⟨LessQ.of (by simp), Below.refl _ _⟩)
                · (have k1 := LessQ.b' (hd 7 (by decide +kernel) rfl) rfl; simp [putM, execOp, go_sem, k1]; exact ⟨LessQ.of (by simp), Below.refl _ _⟩)
                · (have k1 := LessQ.b' (hd 7 (by decide +kernel) rfl) rfl; simp [putM, execOp, go_sem, k1]; exact ⟨LessQ.of (by simp), Below.refl _ _⟩)
                · (have k1 := LessQ.b' (hd 7 (by decide +kernel) rfl) rfl; simp [putM, execOp, go_sem, k1]; exact ⟨LessQ.of (by simp), Below.refl _ _⟩)
                · (have k1 := LessQ.c1 (hd 8 (by decide +kernel) rfl) rfl; simp [putM, execOp, go_sem, k1]; exact ⟨LessQ.of (by simp), Below.refl _ _⟩)
                · (have k1 := LessQ.c2 (hd 9 (by decide +kernel) rfl) rfl; simp [putM, execOp, go_sem, k1]; exact ⟨LessQ.of (by simp), Below.refl _ _⟩)
                · (have k1 := LessQ.c3 (hd 10 (by decide +kernel) rfl) rfl; simp [putM, execOp, go_sem, k1]; exact ⟨LessQ.of (by simp), Below.refl _ _⟩)
                simp only [knowM] at hkn
                have k1 := LessQ.d1 hkn.2.2.2.2.2.1 rfl
                have k2 := LessQ.d2 hkn.2.2.2.2.2.2.1 rfl
                have k3 := LessQ.d3 hkn.2.2.2.2.2.2.2.1 rfl
                have S5 := Lib.hid (S4.out.call hE)
                simp only [putM, k1, k2, k3, List.length_cons, List.length_nil, Nat.zero_add, Nat.reduceAdd, List.drop_succ_cons, List.drop_zero]
                clear u0 u1 u2 u3 u4 k1 k2 k3 hE y0 y1 y2 y3 yz g1 hkn
                go_wp2
                go_roundw
                case rel => exact ⟨k + 1, by omega, by go_num, S5.out⟩
                case measure => simp [intOf]; omega
            · have d1 : decide (x < z) = false := by simpa using hls
              clear HL2 HL HD hls
              have SH := Lib.hid S; clear S
              go_wp2
              have u2 := fun x : ExtOf wr => x.ext.cell g2
              (try have u1 := fun x : ExtOf wr => x.ext.cell g1)
              refine wp_region_ext (by kernel_rfl) (by kernel_rfl) ?_
              repeat (go_big_quiet_step ((fail)))
              refine wpQuiet_nil ?_
              rintro w9 ⟨⟨_, hb9⟩, rfl⟩
              have S4 := Lib.hid (SH.out.call hb9)
              clear u2 g2 hb9 y0 y1 y2 y3 yz
              go_wp2_with (go_at_call 25; go_must (refine (Dists _).mono ?_; rintro e wz ⟨rfl, hb⟩; have SZ := Lib.hid (S4.out.call hb); clear hb))
              go_ret
              exact ⟨rfl, SZ.out.ext⟩
          · obtain rfl : k = l.length := by omega
            clear HL HD
            have SH := Lib.hid S; clear S
            go_wp2
            have u2 := fun x : ExtOf wr => x.ext.cell g2
            (try have u1 := fun x : ExtOf wr => x.ext.cell g1)
            refine wp_region_ext (by kernel_rfl) (by kernel_rfl) ?_
            repeat (go_big_quiet_step ((fail)))
            refine wpQuiet_nil ?_
            rintro w9 ⟨⟨_, hb9⟩, rfl⟩
            have S4 := Lib.hid (SH.out.call hb9)
            clear u2 g2 hb9 y0 y1 y2 y3 yz
            go_wp2_with (go_at_call 25; go_must (refine (Dists _).mono ?_; rintro e wz ⟨rfl, hb⟩; have SZ := Lib.hid (S4.out.call hb); clear hb))
            go_ret
            exact ⟨rfl, SZ.out.ext⟩
      · by_cases hd1 : db = true
        · have c1 : decide ((P.length : Int) < 2) = true := by
            have : ¬ 1 < P.length := fun h => hsh ⟨hd1, h⟩
            simp; omega
          subst hd1
          clear hsh hdb hdd
          go_enter Try.func6, Try.ntmps6
          go_wp2_with (first | (go_at_call 25; go_must (refine (Dists _).mono ?_; rintro e wz ⟨rfl, hb⟩; have SZ := Lib.hid (S2.out.call hb); clear hb)) | (go_at_call 26; go_must (refine (HP.out _ S1.out.ext).mono ?_; rintro e w2 ⟨q2, c2, rfl, Z⟩; have S2 := Lib.hid (S1.out.comp Z); have yz := (S2.out.blk 1 rfl).lt; have y0 := (S2.out.blk 1 rfl).cell 0; have y1 := (S2.out.blk 1 rfl).cell 1; have y2 := (S2.out.blk 1 rfl).cell 2; have y3 := (S2.out.blk 1 rfl).cell 3; clear Z)) | (go_at_call 7; go_must (refine (HBig.out _ S0.out.ext).mono ?_; rintro e w1 ⟨rfl, hb1⟩; have S1 := Lib.hid (S0.out.call hb1); have xz := (S1.out.blk 0 rfl).lt; have x0 := (S1.out.blk 0 rfl).cell 0; have x1 := (S1.out.blk 0 rfl).cell 1; have x2 := (S1.out.blk 0 rfl).cell 2; have x3 := (S1.out.blk 0 rfl).cell 3; clear hb1)))
          go_ret
          exact ⟨rfl, SZ.out.ext⟩
        · obtain rfl : db = false := by simpa using hd1
          clear hsh hdb hdd hd1
          go_enter Try.func6, Try.ntmps6
          go_wp2_with (first | (go_at_call 25; go_must (refine (Dists _).mono ?_; rintro e wz ⟨rfl, hb⟩; have SZ := Lib.hid (S2.out.call hb); clear hb)) | (go_at_call 26; go_must (refine (HP.out _ S1.out.ext).mono ?_; rintro e w2 ⟨q2, c2, rfl, Z⟩; have S2 := Lib.hid (S1.out.comp Z); have yz := (S2.out.blk 1 rfl).lt; have y0 := (S2.out.blk 1 rfl).cell 0; have y1 := (S2.out.blk 1 rfl).cell 1; have y2 := (S2.out.blk 1 rfl).cell 2; have y3 := (S2.out.blk 1 rfl).cell 3; clear Z)) | (go_at_call 7; go_must (refine (HBig.out _ S0.out.ext).mono ?_; rintro e w1 ⟨rfl, hb1⟩; have S1 := Lib.hid (S0.out.call hb1); have xz := (S1.out.blk 0 rfl).lt; have x0 := (S1.out.blk 0 rfl).cell 0; have x1 := (S1.out.blk 0 rfl).cell 1; have x2 := (S1.out.blk 0 rfl).cell 2; have x3 := (S1.out.blk 0 rfl).cell 3; clear hb1)))
          go_ret
          exact ⟨rfl, SZ.out.ext⟩
    · have HP := Lib.hid (fun W1 (h : Ext w W1) => PathG_no po no co O pt nt ct T pr nr cr R pv nv cv V s t W1 (hO.ext h) (hT.ext h) (hR.ext h) (hV.ext h) hct hcv hc)
      generalize pairC (checkR O T R V) O s t = c at *
      have hc0 : (c != 0) = true := by simpa using hc
      clear hO hT hR hV hct hcv hc
      go_enter Try.func6, Try.ntmps6
      go_wp2_with (first | (go_at_call 25; go_must (refine (Dists _).mono ?_; rintro e wz ⟨rfl, hb⟩; have SZ := Lib.hid (S2.out.call hb); clear hb)) | (go_at_call 26; go_must (refine (HP.out _ S1.out.ext).mono ?_; rintro e w2 ⟨rfl, hb⟩; have S2 := Lib.hid (S1.out.call hb); clear hb)) | (go_at_call 7; go_must (refine (HBig.out _ S0.out.ext).mono ?_; rintro e w1 ⟨rfl, hb1⟩; have S1 := Lib.hid (S0.out.call hb1); have xz := (S1.out.blk 0 rfl).lt; have x0 := (S1.out.blk 0 rfl).cell 0; have x1 := (S1.out.blk 0 rfl).cell 1; have x2 := (S1.out.blk 0 rfl).cell 2; have x3 := (S1.out.blk 0 rfl).cell 3; clear hb1)))
      go_ret
      exact ⟨rfl, SZ.out.ext⟩
end Go.Proofs.Ytgnjffnkmdodeaa
/- An argument that is a graph, opened: what its slices read. -/
namespace Go.Proofs.Ytgnjffnkmdodeaa
open Go Go.RowKit Go.ChangeShapes Go.WideShapes Go.ChangeAt Go.Deep Go.Joins
theorem exists_list {α : Type} [Inhabited α] {n : Nat} {p : Nat → α → Prop} (h : ∀ i, i < n → ∃ x, p i x) : ∃ l : List α, l.length = n ∧ ∀ i, i < n → p i (nth l i) := by
  induction n with
  | zero => exact ⟨[], rfl, fun i hi => by omega⟩
  | succ n ih =>
    obtain ⟨l, hl, hp⟩ := ih fun i hi => h i (by omega)
    obtain ⟨x, hx⟩ := h n (by omega)
    refine ⟨l ++ [x], by simp [hl], fun i hi => ?_⟩
    by_cases e : i = n
    · subst e
      have : nth (l ++ [x]) i = x := by subst hl; exact nth_append_new _ _
      rw [this]; exact hx
    · rw [nth_append_left _ _ _ (by omega)]; exact hp i (by omega)
theorem spot_of_cell {w : World} {a : Addr} {v : Value} (h : w.cell? a = some v) : a = ⟨a.block, a.off, none⟩ := by
  unfold World.cell? at h
  split at h
  · split at h
    · cases h
    · rename_i hs
      obtain ⟨b, o, s⟩ := a
      cases s with
      | none => rfl
      | some s => simp at hs
  · cases h
theorem Rd.of_cells {w : World} {size n : Nat} {a : Addr} {xs : List Value} (h0 : 0 < size) (hlen : xs.length = n * size) (hs : n ≤ 9223372036854775807) (hc : ∀ j, j < n * size → w.cell? (a.add j) = some (xs.getD j undef)) : Rd w size (some a) n xs := by
  rcases Nat.eq_zero_or_pos n with hn | hn
  · subst hn
    have : xs = [] := List.eq_nil_of_length_eq_zero (by simpa using hlen)
    subst this
    exact Rd.nil _ _ _
  · have h1 := hc 0 (Nat.mul_pos hn h0)
    have ha := spot_of_cell (a := a) (by simpa [Addr.add] using h1)
    refine ⟨hlen, .inr ⟨_, _, by rw [ha]⟩, hs, fun j hj => ?_⟩
    rw [← hc j hj]
    congr 1
    rw [ha, adr_some]
    by_cases hj0 : j = 0
    · subst hj0; simp [Addr.add]
    · simp [Addr.add, hj0]
section
variable {H : Type} {enc : TypeId × Value → H} {w : World} {base : Nat} {spare : Nat → Bool} {held : Bool}
theorem open_slice_fields {P : Program} {t e : TypeId} {fs : Array Field} {fuel : Nat} {cs : List Value} {x : DataW H × List MemPlace} (ht : P.underlying t = some (.slice e)) (he : P.underlying e = some (.struct fs))
    (hone : oneCellFields P fs = true) (hC : P.cellsOf e = fs.size) (h : DataW.trod enc P w base spare held fuel t cs = some x) :
    (cs = [.slice none 0 0]) ∨
    ∃ (a : Addr) (len cap : Nat), cs = [.slice (some a) len cap] ∧ len ≤ cap ∧ cap ≤ maxLen ∧
      ∀ i, i < len → ∀ (j : Nat) (f : Field), fs[j]? = some f → ∃ (v : Value) (y : DataW H × List MemPlace) (n : Nat), w.cell? (a.add (i * fs.size + j)) = some v ∧ DataW.trod enc P w base spare held n f.type [v] = some y := by
  rcases open_slice ht h with h0 | ⟨a, len, cap, m, n, D, Pl, hcs, hb, hl, hm, hmm, hx, hi⟩
  · exact .inl h0.1
  · refine .inr ⟨a, len, cap, hcs, hl, hm, fun i hil j f hj => ?_⟩
    obtain ⟨cs', hc, ht'⟩ := hi i (by rw [hmm]; split <;> omega)
    rw [hC] at hc
    obtain ⟨ys, n', hn', hy, hlen, hyl, hf⟩ := DataW.trod_struct he ht'
    obtain ⟨_, hcl, hat⟩ := World.cells?_some hc
    obtain ⟨ho, hk⟩ := hone_of hone j f hj
    have hjl : j < fs.size := (Array.getElem?_eq_some_iff.1 hj).1
    have hcell := hat j hjl
    have hv : cs'[j]? = some (cs'[j]'(by omega)) := List.getElem?_eq_getElem (by omega)
    have h1 := hf j f hj
    rw [ho, hk] at h1
    have hone' : (cs'.drop j).take 1 = [cs'[j]'(by omega)] := by
      rw [List.drop_eq_getElem_cons (by omega)]
      rfl
    rw [hone'] at h1
    have hys : ys[j]? = some (ys[j]'(by omega)) := List.getElem?_eq_getElem (by omega)
    refine ⟨_, _, _, ?_, h1.trans hys⟩
    rw [← Go.Deep.add_add, hcell, hv]
theorem open_edges {t : TypeId} {fuel : Nat} {v : Value} {x : DataW H × List MemPlace} (ht : Try.prog.underlying t = some (.slice 52)) (h : DataW.trod enc Try.prog w base spare held fuel t [v] = some x) :
    ∃ p n c E, v = .slice p n c ∧ Rd w 2 p n (encE E) := by
  rcases open_slice_fields ht Try.underlying52 (by kernel_rfl) (by kernel_rfl) h with h0 | ⟨a, len, cap, hcs, hl, hm, hi⟩
  · simp at h0; exact ⟨none, 0, 0, [], h0, Rd.nil _ _ _⟩
  · simp at hcs
    have hl2 : len ≤ 9223372036854775807 := by unfold maxLen at hm; omega
    have hE : ∀ i, i < len → ∃ e : Int × Int, w.cell? (a.add (i * 2)) = some (.int .i64 e.1) ∧ w.cell? (a.add (i * 2 + 1)) = some (.int .i64 e.2) := by
      intro i hil
      obtain ⟨v1, y1, n1, c1, t1⟩ := hi i hil 0 _ rfl
      obtain ⟨v2, y2, n2, c2, t2⟩ := hi i hil 1 _ rfl
      obtain ⟨k1, e1, _⟩ := DataW.trod_int Try.underlying3 t1
      obtain ⟨k2, e2, _⟩ := DataW.trod_int Try.underlying3 t2
      simp at e1 e2
      subst e1 e2
      exact ⟨(k1, k2), c1, c2⟩
    obtain ⟨E, hEl, hEc⟩ := exists_list hE
    refine ⟨some a, len, cap, E, hcs, Rd.of_cells (by decide) (by rw [encE_len, hEl]) hl2 fun j hj => ?_⟩
    have hd : j / 2 < len := by omega
    obtain ⟨g1, g2⟩ := encE_get E (j / 2) (by omega)
    obtain ⟨h1, h2⟩ := hEc (j / 2) hd
    have hm2 : j = j / 2 * 2 ∨ j = j / 2 * 2 + 1 := by omega
    rcases hm2 with e | e
    · rw [e, g1]; exact h1
    · rw [e, g2]; exact h2
theorem open_texts {t : TypeId} {fuel : Nat} {v : Value} {x : DataW H × List MemPlace} (ht : Try.prog.underlying t = some (.slice 9)) (h : DataW.trod enc Try.prog w base spare held fuel t [v] = some x) :
    ∃ p n c l, v = .slice p n c ∧ Rd w 1 p n (encS l) := by
  rcases open_slice ht h with h0 | ⟨a, len, cap, m, n, D, Pl, hcs, hb, hl, hm, hmm, hx, hi⟩
  · obtain ⟨h0, _⟩ := h0; simp at h0; exact ⟨none, 0, 0, [], h0, Rd.nil _ _ _⟩
  · simp at hcs
    have hl2 : len ≤ 9223372036854775807 := by unfold maxLen at hm; omega
    have hc1 : Try.prog.cellsOf 9 = 1 := by kernel_rfl
    rw [hc1] at hi
    have hS : ∀ i, i < len → ∃ s : ByteArray, w.cell? (a.add i) = some (.string s) := by
      intro i hil
      obtain ⟨cs', hc, ht'⟩ := hi i (by rw [hmm]; split <;> omega)
      obtain ⟨s, e1, _⟩ := DataW.trod_string Try.underlying9 ht'
      obtain ⟨_, hcl, hat⟩ := World.cells?_some hc
      have := hat 0 (by decide)
      rw [Go.Deep.add_add, Nat.mul_one, Nat.add_zero, e1] at this
      exact ⟨s, this⟩
    obtain ⟨l, hll, hlc⟩ := exists_list hS
    refine ⟨some a, len, cap, l, hcs, Rd.of_cells (by decide) (by rw [encS_len, hll, Nat.mul_one]) hl2 fun j hj => ?_⟩
    rw [encS_get l j (by omega)]
    exact hlc j (by omega)
theorem open_rows {t : TypeId} {fuel : Nat} {v : Value} {x : DataW H × List MemPlace} (ht : Try.prog.underlying t = some (.slice 87)) (h : DataW.trod enc Try.prog w base spare held fuel t [v] = some x) :
    ∃ p n c hs W, v = .slice p n c ∧ RdW w p n hs W := by
  rcases open_slice ht h with h0 | ⟨a, len, cap, m, n, D, Pl, hcs, hb, hl, hm, hmm, hx, hi⟩
  · obtain ⟨h0, _⟩ := h0; simp at h0; exact ⟨none, 0, 0, [], [], h0, rfl, Rd.nil _ _ _, fun j hj => by omega⟩
  · simp at hcs
    have hl2 : len ≤ 9223372036854775807 := by unfold maxLen at hm; omega
    have hc1 : Try.prog.cellsOf 87 = 1 := by kernel_rfl
    rw [hc1] at hi
    have hS : ∀ i, i < len → ∃ q : Hd × List ByteArray, w.cell? (a.add i) = some (.slice q.1.p q.1.n q.1.c) ∧ Rd w 1 q.1.p q.1.n (encS q.2) := by
      intro i hil
      obtain ⟨cs', hc, ht'⟩ := hi i (by rw [hmm]; split <;> omega)
      obtain ⟨_, hcl, hat⟩ := World.cells?_some hc
      match cs', hcl with
      | [u], _ =>
        obtain ⟨p, n', c', l, e1, hr⟩ := open_texts Try.underlying87 ht'
        have := hat 0 (by decide)
        rw [Go.Deep.add_add, Nat.mul_one, Nat.add_zero, e1] at this
        exact ⟨(⟨p, n', c'⟩, l), this, hr⟩
    obtain ⟨l, hll, hlc⟩ := exists_list hS
    have hm : ∀ i, i < len → nth (l.map (·.1)) i = (nth l i).1 ∧ nth (l.map (·.2)) i = (nth l i).2 := fun i hil => by
      rw [nth_eq (l := l.map (·.1)) (by rw [List.length_map]; omega), nth_eq (l := l.map (·.2)) (by rw [List.length_map]; omega), nth_eq (l := l) (by omega)]; simp
    refine ⟨some a, len, cap, l.map (·.1), l.map (·.2), hcs, by simp, Rd.of_cells (by decide) (by rw [encH_len, List.length_map, hll, Nat.mul_one]) hl2 fun j hj => ?_, fun j hj => ?_⟩
    · rw [encH_get _ j (by simp; omega), (hm j (by omega)).1]
      exact (hlc j (by omega)).1
    · rw [(hm j hj).1, (hm j hj).2]
      exact (hlc j hj).2
set_option maxRecDepth 100000 in
/-- a graph by value -/
theorem open_graph {r : Reach} {b0 : Nat} {v : Value} {d : DataW H} {p : List MemPlace} (hv : Value.okWide Try.prog w r b0 60 v) (h : DataW.Trod enc Try.prog w base spare held 60 v d p) :
    ∃ N pe ne ce pw nw cw E hs W, v = .agg #[.int .i64 N, .slice pe ne ce, .slice pw nw cw] ∧ Rd w 2 pe ne (encE E) ∧ RdW w pw nw hs W := by
  obtain ⟨v0, v1, v2, y0, y1, y2, n, rfl, _, _, t0, t1, t2⟩ := open_agg3 Try.underlying60 (by kernel_rfl) (by kernel_rfl) hv h
  obtain ⟨N, e0, _⟩ := DataW.trod_int Try.underlying3 t0
  simp at e0
  subst e0
  obtain ⟨pe, ne, ce, E, rfl, hE⟩ := open_edges Try.underlying29 t1
  obtain ⟨pw, nw, cw, hs, W, rfl, hW⟩ := open_rows Try.underlying58 t2
  exact ⟨N, pe, ne, ce, pw, nw, cw, E, hs, W, rfl, hE, hW⟩
end
end Go.Proofs.Ytgnjffnkmdodeaa
/- The last step of a law's row: the result is true, the arguments read as they did, where the call only made memory. -/
namespace Go.Proofs.Ytgnjffnkmdodeaa
open Go Go.RowKit Go.WideShapes Go.ChangeShapes
theorem own : ownKnob Try.prog.godebug = none := by kernel_rfl
theorem laidOut : laidOutB Try.prog = true := by kernel_rfl
set_option maxRecDepth 100000 in
/-- true comes back, the arguments stay: what is left to show is their reading -/
theorem law_post {H : Type} {enc : TypeId × Value → H} {f : Func} {s : ChangeSpec} {apart fresh handsOn again : Bool} {W W' : World} {args : Array Value} {ds : List (DataW H)} {before : List MemPlace}
    (hW : DataW.Whole enc Try.prog f.params.toList s.vars apart W args.toList ds [] before) (ht : f.resultTypes = #[4]) (hvars : s.vars = [])
    (hfn : s.fn H (ds ++ []) = { results := [.lit (.bool true)], args := ds })
    (hargs : ∀ sp : Nat → Bool, (∀ p ∈ before, sp p.block = true) → DataW.TrodAll enc Try.prog W' 0 sp true f.params.toList args.toList ds before)
    (hb : Below W.heap.size W W') : s.post enc Try.prog f apart fresh handsOn again W args (.bool true) W' := by
  have lits : ∀ (b : Nat) (sp : Nat → Bool) (hd : Bool), DataW.TrodAll enc Try.prog W' b sp hd f.resultTypes.toList ((Value.bool true).resultList f.resultTypes.size) (s.fn H (ds ++ [])).results [] := by
    intro b sp hd
    rw [hfn, ht]
    exact trodAll_mk1 (shut_bool Try.underlying4 true)
  have hold : ∀ sp : Nat → Bool, (∀ p ∈ before, sp p.block = true) → DataW.TrodAll enc Try.prog W' 0 sp true f.params.toList args.toList (s.fn H (ds ++ [])).args before := by
    intro sp hsp
    rw [hfn]; exact hargs sp hsp
  have hv : ∀ sp : Nat → Bool, DataW.TrodVars enc Try.prog W' sp s.vars (s.fn H (ds ++ [])).vars [] := by
    intro sp; rw [hfn, hvars]; rfl
  have hin : ∀ p ∈ before, p.block < W.heap.size := fun p hp => hW.lt p hp
  have same : before = before ++ [] := by simp
  refine ⟨ds, [], before, [], before, [], hW, lits _ _ _, hold _ (fun p hp => by simpa using hin p hp), hv _, World.keptBut_mono (fun p hp => ⟨hp, .inr (by simpa using hp)⟩) (hb.frame (· ∈ before)), fun _ => ?_⟩
  have hW2 := hW
  obtain ⟨_, _, _, _, _, hz, hn⟩ := hW2
  refine ⟨ok_one (by rw [ht]) rfl (okWide_bool_mk Try.underlying4 _), _, _, ([] ++ before) ++ [], ⟨[] ++ before, [], trodAll_append (hold _ (fun _ _ => rfl)) (lits _ _ _), hv _, rfl, ?_, ?_⟩, ?_⟩
  · intro b off hp
    have hp2 : MemPlace.cell b off ∈ before := by simpa using hp
    rw [hb.frozen (hin _ hp2)]
    exact hz b off hp2
  · intro ha
    simpa using hn ha
  · intro p hp _
    simpa using hp
/-- an argument's reading, carried behind the call -/
theorem stays {H : Type} {enc : TypeId × Value → H} {W W' : World} {t : TypeId} {v : Value} {d : DataW H} {ps : List MemPlace} (hr : Try.prog.readableRec t = true) (hrow : t < Try.prog.types.size) (h : DataW.Trod enc Try.prog W 0 (fun _ => true) true t v d ps)
    (hb : Below W.heap.size W W') (hlt : ∀ x ∈ ps, x.block < W.heap.size) {sp : Nat → Bool} (hsp : ∀ x ∈ ps, sp x.block = true) : DataW.Trod enc Try.prog W' 0 sp true t v d ps :=
  WideElems.Trod_stays laidOut hr hrow h (fun x hx => hb.same (hlt x hx)) hsp
/-- all readings, one by one -/
theorem trodAll_turn {H : Type} {enc : TypeId × Value → H} {P : Program} {W W' : World} {sp sp' : Nat → Bool} {hd : Bool} (ts : List TypeId) : ∀ {vs : List Value} {ds : List (DataW H)} {ps : List MemPlace}, DataW.TrodAll enc P W 0 sp hd ts vs ds ps →
    (∀ t ∈ ts, ∀ v d p, (∀ x ∈ p, x ∈ ps) → DataW.Trod enc P W 0 sp hd t v d p → DataW.Trod enc P W' 0 sp' hd t v d p) → DataW.TrodAll enc P W' 0 sp' hd ts vs ds ps := by
  induction ts with
  | nil =>
    intro vs ds ps h _
    obtain ⟨rfl, rfl, rfl⟩ := trodAll_nil h
    exact trodAll_mk0
  | cons t ts ih =>
    intro vs ds ps h hk
    obtain ⟨v, vs', d, ds', p, q, rfl, rfl, rfl, h1, h2⟩ := trodAll_cons h
    exact trodAll_cons_mk (hk t (by simp) v d p (fun x hx => by simp [hx]) h1) (ih h2 fun t' ht' v' d' p' hp' h' => hk t' (by simp [ht']) v' d' p' (fun x hx => by simp [hp' x hx]) h')
/-- all arguments' reading, carried behind the call -/
theorem stays_all {H : Type} {enc : TypeId × Value → H} {W W' : World} {ts : List TypeId} {vs : List Value} {ds : List (DataW H)} {ps : List MemPlace} (hr : ts.all (fun t => Try.prog.readableRec t && decide (t < Try.prog.types.size)) = true)
    (h : DataW.TrodAll enc Try.prog W 0 (fun _ => true) true ts vs ds ps) (hb : Below W.heap.size W W') (hlt : ∀ x ∈ ps, x.block < W.heap.size) {sp : Nat → Bool} (hsp : ∀ x ∈ ps, sp x.block = true) : DataW.TrodAll enc Try.prog W' 0 sp true ts vs ds ps :=
  trodAll_turn ts h fun t ht v d p hp h1 => by
    have h2 := List.all_eq_true.1 hr t ht
    rw [Bool.and_eq_true, decide_eq_true_eq] at h2
    exact stays h2.1 h2.2 h1 hb (fun x hx => hlt x (hp x hx)) (fun x hx => hsp x (hp x hx))
end Go.Proofs.Ytgnjffnkmdodeaa
/- Arguments that are rows of numbers, of texts, of postings: what they read. -/
namespace Go.Proofs.Ytgnjffnkmdodeaa
open Go Go.RowKit Go.ChangeShapes Go.WideShapes Go.ChangeAt Go.Deep Go.Joins
section
variable {H : Type} {enc : TypeId × Value → H} {w : World} {base : Nat} {spare : Nat → Bool} {held : Bool}
theorem trod_ints {t : TypeId} {fuel : Nat} {v : Value} {x : DataW H × List MemPlace} (ht : Try.prog.underlying t = some (.slice 3)) (h : DataW.trod enc Try.prog w base spare held fuel t [v] = some x) :
    ∃ p n c l, v = .slice p n c ∧ n ≤ c ∧ Rd w 1 p n (encI l) ∧ ∀ x ∈ l, I64 x := by
  rcases open_slice ht h with h0 | ⟨a, len, cap, m, n, D, Pl, hcs, hb, hl, hm, hmm, hx, hi⟩
  · obtain ⟨h0, _⟩ := h0; simp at h0; exact ⟨none, 0, 0, [], h0, Nat.le_refl _, Rd.nil _ _ _, fun x hx => nomatch hx⟩
  · simp at hcs
    have hl2 : len ≤ 9223372036854775807 := by unfold maxLen at hm; omega
    have hc1 : Try.prog.cellsOf 3 = 1 := by kernel_rfl
    rw [hc1] at hi
    have hS : ∀ i, i < len → ∃ s : Int, w.cell? (a.add i) = some (.int .i64 s) ∧ I64 s := by
      intro i hil
      obtain ⟨cs', hc, ht'⟩ := hi i (by rw [hmm]; split <;> omega)
      obtain ⟨s, e1, _, hw⟩ := DataW.trod_int Try.underlying3 ht'
      obtain ⟨_, hcl, hat⟩ := World.cells?_some hc
      have := hat 0 (by decide)
      rw [Go.Deep.add_add, Nat.mul_one, Nat.add_zero, e1] at this
      exact ⟨s, this, hw⟩
    obtain ⟨l, hll, hlc⟩ := exists_list hS
    refine ⟨some a, len, cap, l, hcs, hl, Rd.of_cells (by decide) (by rw [encI_len, hll, Nat.mul_one]) hl2 fun j hj => ?_, fun x hx => ?_⟩
    · rw [encI_get l j (by omega)]
      exact (hlc j (by omega)).1
    · obtain ⟨j, hj, rfl⟩ := List.mem_iff_getElem.1 hx
      rw [← nth_eq hj]
      exact (hlc j (by omega)).2
theorem trod_texts {t : TypeId} {fuel : Nat} {v : Value} {x : DataW H × List MemPlace} (ht : Try.prog.underlying t = some (.slice 9)) (h : DataW.trod enc Try.prog w base spare held fuel t [v] = some x) :
    ∃ p n c l, v = .slice p n c ∧ n ≤ c ∧ Rd w 1 p n (encS l) := by
  obtain ⟨p, n, c, l, rfl, hr⟩ := open_texts ht h
  refine ⟨p, n, c, l, rfl, ?_, hr⟩
  rcases open_slice ht h with h0 | ⟨a, len, cap, m, n', D, Pl, hcs, hb, hl, _⟩
  · obtain ⟨h0, _⟩ := h0; simp at h0; omega
  · simp at hcs; omega
set_option maxRecDepth 100000 in
theorem open_top {t e : TypeId} {r : Reach} {b0 : Nat} {v : Value} {d : DataW H} {p : List MemPlace} (ht : Try.prog.underlying t = some (.slice e)) (hv : Value.okWide Try.prog w r b0 t v) (h : DataW.Trod enc Try.prog w base spare held t v d p) :
    ∃ fuel, DataW.trod enc Try.prog w base spare held fuel t [v] = some (d, p) := by
  obtain ⟨a, n, c, rfl⟩ := okWide_slice ht hv
  exact h
set_option maxRecDepth 100000 in
theorem open_introw {r : Reach} {b0 : Nat} {v : Value} {d : DataW H} {p : List MemPlace} (hv : Value.okWide Try.prog w r b0 22 v) (h : DataW.Trod enc Try.prog w base spare held 22 v d p) :
    ∃ p n c l, v = .slice p n c ∧ n ≤ c ∧ Rd w 1 p n (encI l) ∧ ∀ x ∈ l, I64 x := by
  obtain ⟨f, hf⟩ := open_top Try.underlying22 hv h
  exact trod_ints Try.underlying22 hf
set_option maxRecDepth 100000 in
theorem open_textrow {r : Reach} {b0 : Nat} {v : Value} {d : DataW H} {p : List MemPlace} (hv : Value.okWide Try.prog w r b0 87 v) (h : DataW.Trod enc Try.prog w base spare held 87 v d p) :
    ∃ p n c l, v = .slice p n c ∧ n ≤ c ∧ Rd w 1 p n (encS l) := by
  obtain ⟨f, hf⟩ := open_top Try.underlying87 hv h
  exact trod_texts Try.underlying87 hf
end
end Go.Proofs.Ytgnjffnkmdodeaa
/- An argument that is rows, opened. -/
namespace Go.Proofs.Ytgnjffnkmdodeaa
open Go Go.RowKit Go.ChangeShapes Go.WideShapes Go.ChangeAt Go.Deep Go.Joins
section
variable {H : Type} {enc : TypeId × Value → H} {w : World} {base : Nat} {spare : Nat → Bool} {held : Bool}
set_option maxRecDepth 100000 in
theorem open_rowsarg {r : Reach} {b0 : Nat} {v : Value} {d : DataW H} {p : List MemPlace} (hv : Value.okWide Try.prog w r b0 24 v) (h : DataW.Trod enc Try.prog w base spare held 24 v d p) :
    ∃ po no co O pt nt ct T pr nr cr R pv nv cv V, v = .agg #[.slice po no co, .slice pt nt ct, .slice pr nr cr, .slice pv nv cv] ∧ Rd w 1 po no (encI O) ∧ Rd w 1 pt nt (encI T) ∧ Rd w 1 pr nr (encI R) ∧ Rd w 1 pv nv (encI V) ∧ no ≤ co ∧ nt ≤ ct ∧ nr ≤ cr ∧ nv ≤ cv := by
  obtain ⟨v0, v1, v2, v3, y0, y1, y2, y3, n, rfl, _, _, t0, t1, t2, t3⟩ := open_agg4 Try.underlying24 (by kernel_rfl) (by kernel_rfl) hv h
  obtain ⟨po, no, co, O, rfl, c0, h0, _⟩ := trod_ints Try.underlying22 t0
  obtain ⟨pt, nt, ct, T, rfl, c1, h1, _⟩ := trod_ints Try.underlying22 t1
  obtain ⟨pr, nr, cr, R, rfl, c2, h2, _⟩ := trod_ints Try.underlying22 t2
  obtain ⟨pv, nv, cv, V, rfl, c3, h3, _⟩ := trod_ints Try.underlying22 t3
  exact ⟨po, no, co, O, pt, nt, ct, T, pr, nr, cr, R, pv, nv, cv, V, rfl, h0, h1, h2, h3, c0, c1, c2, c3⟩
end
end Go.Proofs.Ytgnjffnkmdodeaa
/- The law DistPath: a path is a walk, has one place more than Dist, no place twice, and each end of it is a path. -/
namespace Go.Proofs.Ytgnjffnkmdodeaa
open Go Go.RowKit
/-- what Path tells -/
theorem PathG_any (po : Option Addr) (no co : Nat) (O : List Int) (pt : Option Addr) (nt ct : Nat) (T : List Int) (pr : Option Addr) (nr cr : Nat) (R : List Int) (pv : Option Addr) (nv cv : Nat) (V : List Int) (n : Nat) (s : Int) (t : Nat) (w : World) (hO : Rd w 1 po no (encI O)) (hT : Rd w 1 pt nt (encI T)) (hR : Rd w 1 pr nr (encI R)) (hV : Rd w 1 pv nv (encI V)) (hct : nt ≤ ct) (hcv : nv ≤ cv) (hck : checkR O T R V = true) (hno : O.length = n + 1) (hs0 : 0 ≤ s) (hs : s < n) (ht : t < n) :
    Calls Try.prog 26 #[.agg #[.slice po no co, .slice pt nt ct, .slice pr nr cr, .slice pv nv cv], .int .i64 s, .int .i64 t] w fun e w' => ∃ q c, e = .returned (.tuple #[.slice q (pathR (rowL O T) (rowL R V) n s.toNat t).length c, .bool (distB (lev (rowL O T) n s.toNat t)), .int .i64 0]) ∧ Sep w w' [.own 3 1 q (pathR (rowL O T) (rowL R V) n s.toNat t).length c (encI (pathR (rowL O T) (rowL R V) n s.toNat t))] := by
  obtain ⟨a, rfl⟩ : ∃ a : Nat, s = (a : Int) := ⟨s.toNat, by omega⟩
  exact PathG_yes po no co O pt nt ct T pr nr cr R pv nv cv V n a t w hO hT hR hV hct hcv hck hno (by omega) ht
def TS8 (L : List Int) (v : Value) (W : World) : Prop := ∃ q c, v = .tuple #[.slice q L.length c, .bool true, .int .i64 0] ∧ Rd W 1 q L.length (encI L)
def SS8 (L : List Int) (v : Value) (W : World) : Prop := ∃ q c, v = .slice q L.length c ∧ Rd W 1 q L.length (encI L)
structure PathQ (L : List Int) (i : Nat) (v : Value) (W : World) : Prop where
  a : i = 6 → TS8 L v W
  b' : i = 7 → TS8 L v W
  c1 : i = 8 → SS8 L v W
  c2 : i = 9 → v = .bool true
  c3 : i = 10 → v = .int .i64 0
  d1 : i = 11 → SS8 L v W
  d2 : i = 12 → v = .bool true
  d3 : i = 13 → v = .int .i64 0
theorem TS8.ext {L : List Int} {v : Value} {w w' : World} (he : Ext w w') (h : TS8 L v w) : TS8 L v w' := let ⟨q, c, h1, h2⟩ := h; ⟨q, c, h1, h2.ext he⟩
theorem SS8.ext {L : List Int} {v : Value} {w w' : World} (he : Ext w w') (h : SS8 L v w) : SS8 L v w' := let ⟨q, c, h1, h2⟩ := h; ⟨q, c, h1, h2.ext he⟩
theorem PathQ_mono {L : List Int} : ∀ i v W W', Ext W W' → PathQ L i v W → PathQ L i v W' := fun _ _ _ _ he h => ⟨fun e => (h.a e).ext he, fun e => (h.b' e).ext he, fun e => (h.c1 e).ext he, h.c2, h.c3, fun e => (h.d1 e).ext he, h.d2, h.d3⟩
theorem PathQ.of {L : List Int} {i : Nat} {v : Value} {w : World} (h : (i = 6 ∨ i = 7) ∧ TS8 L v w ∨ (i = 8 ∨ i = 11) ∧ SS8 L v w ∨ (i = 9 ∨ i = 12) ∧ v = .bool true ∨ (i = 10 ∨ i = 13) ∧ v = .int .i64 0) : PathQ L i v w := by
  rcases h with ⟨h, h2⟩ | ⟨h, h2⟩ | ⟨h, h2⟩ | ⟨h, h2⟩
  all_goals
    constructor <;> intro h3 <;> first | exact h2 | (exfalso; omega)
set_option maxRecDepth 100000 in
set_option maxHeartbeats 8000000 in
theorem lawPath8 (po : Option Addr) (no co : Nat) (O : List Int) (pt : Option Addr) (nt ct : Nat) (T : List Int) (pr : Option Addr) (nr cr : Nat) (R : List Int) (pv : Option Addr) (nv cv : Nat) (V : List Int) (s t : Int) (w : World) (hO : Rd w 1 po no (encI O)) (hT : Rd w 1 pt nt (encI T)) (hR : Rd w 1 pr nr (encI R)) (hV : Rd w 1 pv nv (encI V)) (hct : nt ≤ ct) (hcv : nv ≤ cv) : Calls Try.prog 5 #[.agg #[.slice po no co, .slice pt nt ct, .slice pr nr cr, .slice pv nv cv], .int .i64 s, .int .i64 t] w fun e w' => e = .returned (.bool true) ∧ Ext w w' := by
  have HBig := Lib.hid (fun W1 (h : Ext w W1) => Big04 po no co O pt nt ct T pr nr cr R pv nv cv V W1 (hO.ext h) (hT.ext h) (hR.ext h) (hV.ext h))
  have S0 := Lib.hid ((Sep.start w).al #[.slice po no co, .slice pt nt ct, .slice pr nr cr, .slice pv nv cv] 24 w.heap.size rfl)
  cases hbig : bigR O T R V with
  | true =>
    rw [hbig] at HBig
    clear hO hT hR hV
    go_enter Try.func5, Try.ntmps5
    go_wp2_with (go_at_call 7; go_must (refine (HBig.out _ S0.out.ext).mono ?_; rintro e w1 ⟨rfl, hb1⟩; have S1 := Lib.hid (S0.out.call hb1); have xz := (S1.out.blk 0 rfl).lt; have x0 := (S1.out.blk 0 rfl).cell 0; have x1 := (S1.out.blk 0 rfl).cell 1; have x2 := (S1.out.blk 0 rfl).cell 2; have x3 := (S1.out.blk 0 rfl).cell 3; clear hb1))
    go_ret
    exact ⟨rfl, S1.out.ext⟩
  | false =>
    rw [hbig] at HBig
    clear hbig
    by_cases hc : pairC (checkR O T R V) O s t = 0
    · obtain ⟨hck, n, a, b, hno, rfl, rfl, ha, hb⟩ := pairC_zero hc
      have HD := Lib.hid (fun W1 (h : Ext w W1) => DistG_yes po no co O pt nt ct T pr nr cr R pv nv cv V n a b W1 (hO.ext h) (hT.ext h) (hR.ext h) (hV.ext h) hct hcv hck hno ha hb)
      have HP := Lib.hid (fun W1 (h : Ext w W1) => PathG_yes po no co O pt nt ct T pr nr cr R pv nv cv V n a b W1 (hO.ext h) (hT.ext h) (hR.ext h) (hV.ext h) hct hcv hck hno ha hb)
      have HPX := Lib.hid (fun (x : Int) (h0 : 0 ≤ x) (h1 : x < n) W1 (h : Ext w W1) => PathG_any po no co O pt nt ct T pr nr cr R pv nv cv V n x b W1 (hO.ext h) (hT.ext h) (hR.ext h) (hV.ext h) hct hcv hck hno h0 h1 hb)
      have HW := Lib.hid (fun q c l W1 (h : Ext w W1) (hl : Rd W1 1 q (List.length l) (encI l)) => WalkG po no co O pt nt ct T pr nr cr R pv nv cv V q l.length c l W1 (hO.ext h) (hT.ext h) (hR.ext h) (hV.ext h) hct hcv hl)
      rw [hck] at HW
      have hrev : Rev (rowL O T) (rowL R V) n := by have := nxR_rev hck false; rw [hno] at this; exact this
      have hin : InN (rowL O T) n := by have := nxR_in hck false; rw [hno] at this; exact this
      have r := offB_parts (halfB_off (checkR_half hck).2.2.1)
      have hn : n ≤ 200 := by omega
      by_cases h0 : 0 ≤ lev (rowL O T) n a b
      · obtain ⟨pe, p1, p2, p3, p4⟩ := path_law hrev hin ha hb h0
        clear pe
        have hwk : walkB true O T (pathR (rowL O T) (rowL R V) n a b) = true := by
          have := walk_path hck (s := a) (t := b) (by omega) (by omega) (by rw [hno]; exact h0)
          rw [hno] at this; exact this
        have hAT := fun i hi => path_at hrev hin ha hb h0 (i := i) hi
        have hPD : Hid (∀ v : Nat, v < n → 0 ≤ lev (rowL O T) n v b → distB (lev (rowL O T) n v b) = true) := fun v _ h => by unfold distB; simpa using h
        have HAT := Lib.hid hAT
        have hri := rising_nodup p4
        have hlt := lev_lt (nx := rowL O T) ha hb
        obtain ⟨d, hd⟩ : ∃ d : Nat, lev (rowL O T) n a b = d := ⟨_, (Int.toNat_of_nonneg h0).symm⟩
        have HDB : distN (lev (rowL O T) n a b) = (d:Int) ∧ distB (lev (rowL O T) n a b) = true := by unfold distN distB; rw [if_pos h0]; exact ⟨hd, by simpa using h0⟩
        rw [HDB.1, HDB.2] at HD
        rw [HDB.2] at HP
        rw [hd] at p1 p3 hlt
        rw [Int.toNat_natCast] at p3
        generalize pathR (rowL O T) (rowL R V) n a b = P at *
        have HW2 := Lib.hid (fun q c W1 (h : Ext w W1) hl => HW.out q c P W1 h hl)
        rw [hwk] at HW2
        have HRi := Lib.hid (fun q c W1 (hl : Rd W1 1 q P.length (encI P)) => Rising05s q P.length c P W1 hl (by omega))
        rw [hri] at HRi
        have f1 : ((P.length : Int) != (d:Int) + 1) = false := by simpa using p1
        have f2 : ((P.length : Int) == 0) = false := by rw [beq_eq_false_iff_ne]; omega
        have f3 : (0:Int) < P.length := by omega
        have f4 : (d:Int) < P.length := by omega
        have f5 : (0:Int) ≤ d := by omega
        have f6 : P.length ≤ 201 := by omega
        have f7 : d ≤ 200 := by omega
        have HR0 := Lib.hid (fun q W1 (hl : Rd W1 1 q P.length (encI P)) => by
          have g0 := hl.cI (k := 0) (by omega)
          have g1 := hl.cI (k := d) (by omega)
          rw [p2] at g0
          rw [p3] at g1
          exact And.intro g0 g1)
        clear hO hT hR hV hct hcv hck hrev hin hc r hno hwk hAT p1 p2 p3 p4 hri HDB HW hd h0 hlt
        generalize putAll ltI P = P2 at *
        go_enter Try.func5, Try.ntmps5
        go_wp2_with (first
          | (go_at_call 28; go_must (refine (HRi.out q3 c3 _ (S4.out.rd 0 rfl (by omega))).mono ?_; rintro e w5 ⟨q5, c5, rfl, Z⟩; have S5 := Lib.hid (S4.out.call Z.ext); clear Z))
          | (go_at_call 27; go_must (refine (HW2.out q3 c3 _ S3.out.ext (S3.out.rd 0 rfl (by omega))).mono ?_; rintro e w4 ⟨rfl, hb⟩; have S4 := Lib.hid (S3.out.call hb); clear hb))
          | (go_at_call 26; go_must (refine (HP.out _ S2.out.ext).mono ?_; rintro e w3 ⟨q3, c3, rfl, Z⟩; have S3 := Lib.hid (S2.out.comp Z); obtain ⟨g0, g1⟩ := HR0.out _ _ (S3.out.rd 0 rfl (by omega)); have pq := (S3.out.rd 0 rfl (by omega)).ptr; have vz := (S3.out.blk 1 rfl).lt; have v0 := (S3.out.blk 1 rfl).cell 0; have v1 := (S3.out.blk 1 rfl).cell 1; have v2 := (S3.out.blk 1 rfl).cell 2; have v3 := (S3.out.blk 1 rfl).cell 3; clear Z))
          | (go_at_call 23; go_must (refine (HD.out _ S1.out.ext).mono ?_; rintro e w2 ⟨rfl, hb⟩; have S2 := Lib.hid (S1.out.call hb); have yz := (S2.out.blk 0 rfl).lt; have y0 := (S2.out.blk 0 rfl).cell 0; have y1 := (S2.out.blk 0 rfl).cell 1; have y2 := (S2.out.blk 0 rfl).cell 2; have y3 := (S2.out.blk 0 rfl).cell 3; clear hb)) | (go_at_call 7; go_must (refine (HBig.out _ S0.out.ext).mono ?_; rintro e w1 ⟨rfl, hb1⟩; have S1 := Lib.hid (S0.out.call hb1); have xz := (S1.out.blk 0 rfl).lt; have x0 := (S1.out.blk 0 rfl).cell 0; have x1 := (S1.out.blk 0 rfl).cell 1; have x2 := (S1.out.blk 0 rfl).cell 2; have x3 := (S1.out.blk 0 rfl).cell 3; clear hb1)))
        have S6 := Lib.hid (S5.out.call (Below.refl _ _))
        go_loopw [13, 14, 15, 16] (fun i _ _ _ wr => ∃ k : Nat, k ≤ P.length ∧ i = .int .i64 k ∧ Sep w wr [.own 3 1 q3 P.length c3 (encI P), .blk w.heap.size 24 #[.slice po no co, .slice pt nt ct, .slice pr nr cr, .slice pv nv cv]]) (fun i _ _ _ _ => P.length - (intOf i).toNat)
        case atStart => exact ⟨0, Nat.zero_le _, rfl, S6.out⟩
        case round =>
          clear S0 S1 S2 S3 S4 S5 S6 g0 g1 pq HR0 HW2 HRi
          obtain ⟨k, hk, rfl, S⟩ := hrel
          by_cases hlt : k < P.length
          · obtain ⟨v, v1, v2, v3, v4⟩ := HAT.out k hlt
            have v5 := hPD.out v v2 v3
            have HPx := Lib.hid (fun W1 h => HPX.out (nth P k) (by omega) (by omega) W1 h)
            rw [v1, Int.toNat_natCast, v4, v5] at HPx
            have g1 := (S.rd 0 rfl (by omega)).cI hlt
            rw [v1] at g1
            have pq := (S.rd 0 rfl (by omega)).ptr
            have cq := own_cap (S.own 0 rfl)
            have hdl : (P.drop k).length = P.length - k := List.length_drop
            have HRC : Hid (∀ W1, Rd W1 1 q3 P.length (encI P) → Rd W1 1 (cutp q3 c3 k 1) (P.length - k) (encI (P.drop k))) := fun W1 h => by
              have := h.cut (Nat.le_of_lt hlt) (Nat.le_refl _) cq
              have e1 : ((encI P).drop (k * 1)).take ((P.length - k) * 1) = encI (P.drop k) := by
                rw [Nat.mul_one, Nat.mul_one, List.take_of_length_le (by simp [encI])]
                simp [encI, List.map_drop]
              rwa [e1] at this
            generalize P.drop k = L at *
            have HDL := Lib.hid hdl
            have d1 : (0:Int) ≤ k := by omega
            have d2 : (k:Int) < P.length := by omega
            have d3 : (k:Int) ≤ P.length := by omega
            have d4 : k ≤ c3 := by omega
            clear v1 v2 v3 v4 v5 hdl
            have yz := (S.blk 1 rfl).lt; have y0 := (S.blk 1 rfl).cell 0; have y1 := (S.blk 1 rfl).cell 1; have y2 := (S.blk 1 rfl).cell 2; have y3 := (S.blk 1 rfl).cell 3
            have SH := Lib.hid S; clear S
            go_wp2
            have u0 := fun x : ExtOf wr => x.ext.cell y0
            have u1 := fun x : ExtOf wr => x.ext.cell y1
            have u2 := fun x : ExtOf wr => x.ext.cell y2
            have u3 := fun x : ExtOf wr => x.ext.cell y3
            have u4 := fun x : ExtOf wr => x.ext.cell g1
            refine wp_region_mix [true, true, true, true, true, true, false, false, false, false, false, false, false, false] (PathQ L) (by kernel_rfl) (by kernel_rfl) (by kernel_rfl) PathQ_mono ?_
            simp only [nfM]
            repeat (go_big_quiet_step ((fail)))
            refine wpQuiet_nil ⟨⟨fun vs W1 hE hd => ?_, fun vs W1 hE hd => ?_, fun vs W1 hE hd => ?_, fun vs W1 hE hd => ?_, fun vs W1 hE hd => ?_, fun vs W1 hE hd => ?_, fun vs W1 hE hd => ?_, fun vs W1 hE hd => ?_, trivial⟩, fun vs W1 hE hkn => ?_⟩
            · simp [putM, execOp, go_sem]
              exact (HPx.out _ (Ext.trans SH.out.ext hE)).mono fun e w' ⟨q, c, h1, h2⟩ => ⟨_, h1, PathQ.of (.inl ⟨.inl rfl, q, c, rfl, h2.rd 0 rfl (by have := HDL.out; omega)⟩), h2.ext⟩
            · have k0 := PathQ.a (hd 6 (by decide +kernel) rfl) rfl
              simp [putM, execOp, go_sem]
              exact ⟨PathQ.of (.inl ⟨.inr rfl, k0⟩), Below.refl _ _⟩
            · have k0 := PathQ.b' (hd 7 (by decide +kernel) rfl) rfl
              simp [putM, execOp, go_sem]
              obtain ⟨q, c, k1, k2⟩ := k0
              simp [k1, go_sem]
              exact ⟨PathQ.of (.inr (.inl ⟨.inl rfl, q, c, rfl, k2⟩)), Below.refl _ _⟩
            · have k0 := PathQ.b' (hd 7 (by decide +kernel) rfl) rfl
              simp [putM, execOp, go_sem]
              obtain ⟨q, c, k1, k2⟩ := k0
              simp [k1, go_sem]
              exact ⟨PathQ.of (.inr (.inr (.inl ⟨.inl rfl, rfl⟩))), Below.refl _ _⟩
            · have k0 := PathQ.b' (hd 7 (by decide +kernel) rfl) rfl
              simp [putM, execOp, go_sem]
              obtain ⟨q, c, k1, k2⟩ := k0
              simp [k1, go_sem]
              exact ⟨PathQ.of (.inr (.inr (.inr ⟨.inl rfl, rfl⟩))), Below.refl _ _⟩
            · have k0 := PathQ.c1 (hd 8 (by decide +kernel) rfl) rfl
              simp [putM, execOp, go_sem]
              exact ⟨PathQ.of (.inr (.inl ⟨.inr rfl, k0⟩)), Below.refl _ _⟩
            · have k1 := PathQ.c2 (hd 9 (by decide +kernel) rfl) rfl
              simp [putM, execOp, go_sem, k1]
              exact ⟨PathQ.of (.inr (.inr (.inl ⟨.inr rfl, rfl⟩))), Below.refl _ _⟩
            · have k1 := PathQ.c3 (hd 10 (by decide +kernel) rfl) rfl
              simp [putM, execOp, go_sem, k1]
              exact ⟨PathQ.of (.inr (.inr (.inr ⟨.inr rfl, rfl⟩))), Below.refl _ _⟩
            simp only [knowM] at hkn
            have k0 := PathQ.d1 hkn.2.2.2.2.2.1 rfl
            have k2 := PathQ.d2 hkn.2.2.2.2.2.2.1 rfl
            have k3 := PathQ.d3 hkn.2.2.2.2.2.2.2.1 rfl
            have S5 := Lib.hid (SH.out.call hE)
            simp only [putM, k2, k3, List.length_cons, List.length_nil, Nat.zero_add, Nat.reduceAdd, List.drop_succ_cons, List.drop_zero]
            obtain ⟨q5, c5, k1, hr5⟩ := k0
            rw [k1]
            have HR5 := Lib.hid hr5
            clear u0 u1 u2 u3 u4 k1 k2 k3 hE y0 y1 y2 y3 yz g1 hkn hr5
            go_wp2_with (go_at_call 15; go_must (refine (IntsY _ _ _ _ _ _ L _ HR5.out (HRC.out _ (S5.out.rd 0 rfl (by omega)))).mono ?_; rintro e w7 ⟨rfl, hb⟩; have S7 := Lib.hid (S5.out.call hb); clear hb))
            go_roundw
            case rel => exact ⟨k + 1, by omega, by go_num, S7.out⟩
            case measure => simp [intOf]; omega
          · obtain rfl : k = P.length := by omega
            have SH := Lib.hid S; clear S
            go_wp2_with (go_at_call 25; go_must (refine (Dists _).mono ?_; rintro e wz ⟨rfl, hb⟩; have SZ := Lib.hid (SH.out.call hb); clear hb))
            go_ret
            exact ⟨rfl, SZ.out.ext⟩
      · have HNEG : pathR (rowL O T) (rowL R V) n a b = [] ∧ distB (lev (rowL O T) n a b) = false := ⟨by unfold pathR; rw [if_neg h0], by unfold distB; simp; omega⟩
        rw [HNEG.2] at HD
        rw [HNEG.1, HNEG.2] at HP
        clear hO hT hR hV hct hcv hck hrev hin hc r hno HNEG h0 HW HPX
        go_enter Try.func5, Try.ntmps5
        go_wp2_with (first | (go_at_call 25; go_must (refine (Dists _).mono ?_; rintro e wz ⟨rfl, hb⟩; have SZ := Lib.hid (S3.out.call hb); clear hb)) | (go_at_call 26; go_must (refine (HP.out _ S2.out.ext).mono ?_; rintro e w3 ⟨q3, c3, rfl, Z⟩; have S3 := Lib.hid (S2.out.comp Z); have vz := (S3.out.blk 1 rfl).lt; have v0 := (S3.out.blk 1 rfl).cell 0; have v1 := (S3.out.blk 1 rfl).cell 1; have v2 := (S3.out.blk 1 rfl).cell 2; have v3 := (S3.out.blk 1 rfl).cell 3; clear Z)) | (go_at_call 23; go_must (refine (HD.out _ S1.out.ext).mono ?_; rintro e w2 ⟨rfl, hb⟩; have S2 := Lib.hid (S1.out.call hb); have yz := (S2.out.blk 0 rfl).lt; have y0 := (S2.out.blk 0 rfl).cell 0; have y1 := (S2.out.blk 0 rfl).cell 1; have y2 := (S2.out.blk 0 rfl).cell 2; have y3 := (S2.out.blk 0 rfl).cell 3; clear hb)) | (go_at_call 7; go_must (refine (HBig.out _ S0.out.ext).mono ?_; rintro e w1 ⟨rfl, hb1⟩; have S1 := Lib.hid (S0.out.call hb1); have xz := (S1.out.blk 0 rfl).lt; have x0 := (S1.out.blk 0 rfl).cell 0; have x1 := (S1.out.blk 0 rfl).cell 1; have x2 := (S1.out.blk 0 rfl).cell 2; have x3 := (S1.out.blk 0 rfl).cell 3; clear hb1)))
        go_ret
        exact ⟨rfl, SZ.out.ext⟩
    · have HD := Lib.hid (fun W1 (h : Ext w W1) => DistG_no po no co O pt nt ct T pr nr cr R pv nv cv V s t W1 (hO.ext h) (hT.ext h) (hR.ext h) (hV.ext h) hct hcv hc)
      have HP := Lib.hid (fun W1 (h : Ext w W1) => PathG_no po no co O pt nt ct T pr nr cr R pv nv cv V s t W1 (hO.ext h) (hT.ext h) (hR.ext h) (hV.ext h) hct hcv hc)
      generalize pairC (checkR O T R V) O s t = c at *
      have hc0 : (c != 0) = true := by simpa using hc
      clear hO hT hR hV hct hcv hc
      go_enter Try.func5, Try.ntmps5
      go_wp2_with (first | (go_at_call 25; go_must (refine (Dists _).mono ?_; rintro e wz ⟨rfl, hb⟩; have SZ := Lib.hid (S3.out.call hb); clear hb)) | (go_at_call 26; go_must (refine (HP.out _ S2.out.ext).mono ?_; rintro e w3 ⟨rfl, hb⟩; have S3 := Lib.hid (S2.out.call hb); clear hb)) | (go_at_call 23; go_must (refine (HD.out _ S1.out.ext).mono ?_; rintro e w2 ⟨rfl, hb⟩; have S2 := Lib.hid (S1.out.call hb); have yz := (S2.out.blk 0 rfl).lt; have y0 := (S2.out.blk 0 rfl).cell 0; have y1 := (S2.out.blk 0 rfl).cell 1; have y2 := (S2.out.blk 0 rfl).cell 2; have y3 := (S2.out.blk 0 rfl).cell 3; clear hb)) | (go_at_call 7; go_must (refine (HBig.out _ S0.out.ext).mono ?_; rintro e w1 ⟨rfl, hb1⟩; have S1 := Lib.hid (S0.out.call hb1); have xz := (S1.out.blk 0 rfl).lt; have x0 := (S1.out.blk 0 rfl).cell 0; have x1 := (S1.out.blk 0 rfl).cell 1; have x2 := (S1.out.blk 0 rfl).cell 2; have x3 := (S1.out.blk 0 rfl).cell 3; clear hb1)))
      go_ret
      exact ⟨rfl, SZ.out.ext⟩
end Go.Proofs.Ytgnjffnkmdodeaa
