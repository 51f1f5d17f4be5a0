/- Texts of this claim, one behind the other: Lb6, Lb7, Lb8, Lb9, Lb10, Lb11, Dst8d, Dst8e, Dst8f, Dst8g, Dst9a, Lb12, LDist12, Open, Post, Open5, Open4, Lb14, Lb15, Lb13, Lb20, LNeed12, LSelf12. -/
import Derived.ProofKit
import Derived.Deep.Slices
import Derived.Deep.Fields
import Derived.ChangeSame
import Derived.Lib.SmallJoins
import Derived.Below
import Derived.Carry
import Derived.OpenShut
import Derived.Test.YthlmcfbadhidbaaGreatProg
import Derived.Deep.RegionHeld3
import Derived.Test.YthlmcfbadhidbaaGreatQLabelDistLabelNeededLabelSelfLabelTellsL4
/- The program's labels (chapter 12): Build of what are no rows; right. -/
namespace Go.Proofs.YthlmcfbadhidbaaGreat
open Go Go.RowKit Go.Maps
set_option maxRecDepth 100000 in
set_option maxHeartbeats 4000000 in
theorem BuildG_no (po : Option Addr) (no co : Nat) (O : List Int) (pt : Option Addr) (nt ct : Nat) (T : List Int) (pr : Option Addr) (nr cr : Nat) (R : List Int) (pv : Option Addr) (nv cv : Nat) (V : List Int) (w : World) (hO : Rd w 1 po no (encI O)) (hT : Rd w 1 pt nt (encI T)) (hR : Rd w 1 pr nr (encI R)) (hV : Rd w 1 pv nv (encI V)) (hct : nt ≤ ct) (hcv : nv ≤ cv) (hck : checkR O T R V = false) :
    Calls Tryz.prog 26 #[.agg #[.slice po no co, .slice pt nt ct, .slice pr nr cr, .slice pv nv cv]] w fun e w' => e = .returned (.tuple #[.agg #[.slice none 0 0, .slice none 0 0], .int .i64 40]) ∧ Ext w w' := by
  have HC := Lib.hid (fun W1 (h : Ext w W1) => CheckR po no co O pt nt ct T pr nr cr R pv nv cv V W1 (hO.ext h) (hT.ext h) (hR.ext h) (hV.ext h) hct hcv)
  rw [hck] at HC
  have S0 := Lib.hid (((Sep.start w).al #[.slice po no co, .slice pt nt ct, .slice pr nr cr, .slice pv nv cv] 24 w.heap.size rfl).al #[.slice none 0 0, .slice none 0 0] 42 (w.heap.size + 1) (by simp))
  clear hO hT hR hV hct hcv hck
  go_enter Tryz.func26, Tryz.ntmps26
  go_wp2_with (go_at_call 40; go_must (refine (HC.out _ S0.out.ext).mono ?_; rintro e w1 ⟨rfl, hb⟩; have S1 := Lib.hid (S0.out.call hb); have l0 := ((S0.out.call hb).blk 0 rfl).cell 0; have l1 := ((S0.out.call hb).blk 0 rfl).cell 1; have lz := ((S0.out.call hb).blk 0 rfl).lt; have lf0 := ((S0.out.call hb).blk 0 rfl).frozen 0; have lf1 := ((S0.out.call hb).blk 0 rfl).frozen 1; clear hb))
  have T := (S1.out.set 0 rfl 0 (.slice none 0 0)).set 0 rfl 1 (.slice none 0 0)
  have c0 := (T.blk 0 rfl).cell 0
  have c1 := (T.blk 0 rfl).cell 1
  simp at c0 c1
  refine bodyPost_ret (v := .tuple #[.agg #[.slice none 0 0, .slice none 0 0], .int .i64 40]) (by simp [results, Tryz.results26, go_sem, c0, c1, Tryz.sizeOf42, Tryz.isAgg42]) rfl ⟨rfl, T.ext⟩
/-- a hit that may be -/
def okH (n : Int) (x : Int × Int) : Bool := decide (0 ≤ x.1 ∧ x.1 < n ∧ 0 ≤ x.2 ∧ x.2 ≤ 200)
def rightB (l : List (Int × Int)) (n : Int) : Bool := l.all (okH n) && decide ((l.map (·.1)).Nodup)
def OkRt (l : List (Int × Int)) (n : Int) (k : Nat) : Prop := (l.take k).all (okH n) = true ∧ ((l.take k).map (·.1)).Nodup
theorem right_no1 {l : List (Int × Int)} {n : Int} {k : Nat} (hk : k < l.length) (h : okH n (nth l k) = false) : rightB l n = false := by
  unfold rightB
  have : l.all (okH n) = false := by
    rw [← Bool.not_eq_true, List.all_eq_true]
    intro hc
    have := hc _ (nth_mem hk)
    rw [h] at this; cases this
  rw [this]; rfl
theorem right_no2 {l : List (Int × Int)} {n : Int} {k : Nat} (hk : k < l.length) (h : (nth l k).1 ∈ (l.take k).map (·.1)) : rightB l n = false := by
  unfold rightB
  have : ¬ (l.map (·.1)).Nodup := fun hn => by
    have e : l.map (·.1) = (l.take k).map (·.1) ++ (l.drop k).map (·.1) := by rw [← List.map_append, List.take_append_drop]
    rw [e, List.nodup_append] at hn
    refine absurd rfl (hn.2.2 _ h (nth l k).1 ?_)
    rw [List.drop_eq_getElem_cons hk, ← nth_eq hk]
    simp
  rw [decide_eq_false this, Bool.and_false]
theorem right_step {l : List (Int × Int)} {n : Int} {k : Nat} (hk : k < l.length) (h : OkRt l n k) (h1 : okH n (nth l k) = true) (h2 : (nth l k).1 ∉ (l.take k).map (·.1)) : OkRt l n (k + 1) := by
  unfold OkRt
  rw [take_succ_nth l k hk, List.all_append, List.map_append]
  refine ⟨by rw [h.1]; simp [h1], ?_⟩
  rw [List.nodup_append]
  refine ⟨h.2, by simp, fun a ha b hb e => ?_⟩
  simp at hb
  subst hb; subst e
  exact h2 ha
theorem right_end {l : List (Int × Int)} {n : Int} {k : Nat} (hk : k = l.length) (h : OkRt l n k) : rightB l n = true := by
  subst hk
  unfold OkRt at h
  rw [List.take_length] at h
  unfold rightB
  rw [h.1, decide_eq_true h.2]; rfl
theorem okRt_len {l : List (Int × Int)} {n k : Nat} (h : OkRt l n k) : ((l.take k).map (·.1)).length ≤ n := nodup_small h.2 fun x hx => by
  obtain ⟨y, hy, rfl⟩ := List.mem_map.1 hx
  have := List.all_eq_true.1 h.1 y hy
  unfold okH at this
  rw [decide_eq_true_eq] at this
  omega
set_option maxRecDepth 100000 in
set_option maxHeartbeats 8000000 in
theorem RightG (p : Option Addr) (m c : Nat) (l : List (Int × Int)) (n : Nat) (w : World) (hl : Rd w 2 p m (encE l)) (hn : n ≤ 100000) :
    Calls Tryz.prog 59 #[.slice p m c, .int .i64 n] w fun e w' => e = .returned (.bool (rightB l n)) ∧ Ext w w' := by
  have L1 := Lib.hid hl.nE
  have p1 := hl.ptr
  have n1 := hl.small
  have HL := Lib.hid hl; clear hl
  have hmm := @run_makeMap Tryz.prog
  have S0 := Lib.hid ((Sep.start w).mkmap EBm (k := 3))
  go_enter Tryz.func59, Tryz.ntmps59
  go_wp2
  go_loopw [7, 11] (fun _ i wr => ∃ (k mm : Nat) (f : Int → Option Bool), k ≤ m ∧ i = .int .i64 k ∧ Hid (OkRt l n k) ∧ mm ≤ ((l.take k).map (·.1)).length ∧ Sep w wr [.map Tryz.prog 3 EBm w.heap.size mm f] ∧ ∀ x, f x = some true ↔ x ∈ (l.take k).map (·.1)) (fun _ i _ => m - (intOf i).toNat)
  case atStart => exact ⟨0, 0, _, Nat.zero_le _, rfl, ⟨rfl, List.nodup_nil⟩, Nat.le_refl _, S0.out, fun x => by simp⟩
  case round =>
    clear S0
    obtain ⟨k, mm, f, hk, rfl, ok, hmk, S, hf⟩ := hrel
    by_cases hlt : k < m
    · have hkL : k < l.length := by rw [← L1.out]; exact hlt
      have HKN := Lib.hid (okRt_len ok.out)
      have g1 := S.ext.cell (HL.out.cE hlt)
      have g2 := S.ext.cell (HL.out.cE2 hlt)
      have d1 : (0:Int) ≤ k := by omega
      have d2 : (k:Int) < m := by omega
      have HN1 : Hid (okH n (nth l k) = false → rightB l n = false) := fun h => right_no1 hkL h
      have HN2 : Hid ((nth l k).1 ∈ (l.take k).map (·.1) → rightB l n = false) := fun h => right_no2 hkL h
      have HST : Hid (okH n (nth l k) = true → (nth l k).1 ∉ (l.take k).map (·.1) → OkRt l n (k + 1)) := fun h1 h2 => right_step hkL ok.out h1 h2
      have HTK : Hid ((l.take (k + 1)).map (·.1) = (l.take k).map (·.1) ++ [(nth l k).1]) := by unfold Hid; rw [take_succ_nth l k hkL, List.map_append]; rfl
      generalize (l.take k).map (·.1) = K at *
      generalize nth l k = x at *
      obtain ⟨x1, x2⟩ := x
      simp only at *
      unfold okH at HN1 HST
      simp only at HN1 HST
      by_cases h1 : x1 < 0
      · have f1 : decide (x1 < 0) = true := by simpa using h1
        have HF : Hid (rightB l n = false) := HN1.out (decide_eq_false (by omega))
        clear HN1 HN2 HST HTK hf h1 ok
        have SH := Lib.hid S; clear S
        go_wp2
        go_ret
        exact ⟨by rw [HF.out]; rfl, Ext.trans SH.out.ext (Ext.alloc (Below.refl _ _) _)⟩
      · have f1 : decide (x1 < 0) = false := by simpa using h1
        by_cases h2 : (n:Int) ≤ x1
        · have f2 : decide ((n:Int) ≤ x1) = true := by simpa using h2
          have HF : Hid (rightB l n = false) := HN1.out (decide_eq_false (by omega))
          clear HN1 HN2 HST HTK hf h1 h2 ok
          have SH := Lib.hid S; clear S
          go_wp2
          go_ret
          exact ⟨by rw [HF.out]; rfl, Ext.trans SH.out.ext (Ext.alloc (Below.refl _ _) _)⟩
        · have f2 : decide ((n:Int) ≤ x1) = false := by simpa using h2
          by_cases h3 : x2 < 0
          · have f3 : decide (x2 < 0) = true := by simpa using h3
            have HF : Hid (rightB l n = false) := HN1.out (decide_eq_false (by omega))
            clear HN1 HN2 HST HTK hf h1 h2 h3 ok
            have SH := Lib.hid S; clear S
            go_wp2
            go_ret
            exact ⟨by rw [HF.out]; rfl, Ext.trans SH.out.ext (Ext.alloc (Below.refl _ _) _)⟩
          · have f3 : decide (x2 < 0) = false := by simpa using h3
            by_cases h4 : 200 < x2
            · have f4 : decide (200 < x2) = true := by simpa using h4
              have HF : Hid (rightB l n = false) := HN1.out (decide_eq_false (by omega))
              clear HN1 HN2 HST HTK hf h1 h2 h3 h4 ok
              have SH := Lib.hid S; clear S
              go_wp2
              go_ret
              exact ⟨by rw [HF.out]; rfl, Ext.trans SH.out.ext (Ext.alloc (Below.refl _ _) _)⟩
            · have f4 : decide (200 < x2) = false := by simpa using h4
              obtain ⟨b, rfl⟩ : ∃ b : Nat, x1 = b := ⟨x1.toNat, by omega⟩
              have f2n : decide (n ≤ b) = false := by simp; omega
              have hok : decide (0 ≤ (b:Int) ∧ (b:Int) < n ∧ 0 ≤ x2 ∧ x2 ≤ 200) = true := decide_eq_true (by omega)
              have HS2 : Hid ((b:Int) ∉ K → OkRt l n (k + 1)) := HST.out hok
              have HIb : Hid (I64 (b : Int)) := I64.nat (by omega)
              have S2 := Lib.hid (S.junk (.cells #[.int .i64 (b:Int), .int .i64 x2] 54))
              have hlk := (S2.out.map 0 rfl).lookup Tryz.underlying3 Tryz.underlying120 HIb.out
              obtain ⟨u, hu⟩ : ∃ u, u = (f (b : Int)).getD EBm.z := ⟨_, rfl⟩
              rw [← hu] at hlk
              have hlk2 : (Instr.lookup 120 (.map (some w.heap.size)) (.int .i64 (b : Int)) false).run Tryz.prog (wr.alloc (.cells #[.int .i64 (b:Int), .int .i64 x2] 54)) = .ok (.bool u) (wr.alloc (.cells #[.int .i64 (b:Int), .int .i64 x2] 54)) := hlk
              have hui : u = true ↔ (b : Int) ∈ K := by
                rw [← hf, hu]
                cases hfb : f (b : Int) with
                | none => simp; decide
                | some t => simp
              clear hlk hu HN1 HST h1 h2 h3 h4 ok hok
              have HFN := Lib.hid hf; clear hf
              have SH := Lib.hid S; clear S
              cases u with
              | true =>
                have HF : Hid (rightB l n = false) := HN2.out (hui.1 rfl)
                clear hui HN2
                go_wp2
                go_ret
                exact ⟨by rw [HF.out]; rfl, S2.out.ext⟩
              | false =>
                have HO : Hid (OkRt l n (k + 1)) := HS2.out fun h => by have := hui.2 h; cases this
                clear hui HN2 HS2
                go_wp2_with (at_mapUpdate; go_must (refine wpList_update_sep rfl _ _ _ _ rfl Tryz.underlying3 Tryz.underlying120 rfl S2.out 0 rfl (by have := HKN.out; omega) (b : Int) true rfl rfl HIb.out ?_; intro w1 S1 hg; have S3 := Lib.hid S1; clear S1 hg))
                go_roundw
                case rel => exact ⟨k + 1, mm + 1, _, by omega, by go_num, HO.out, by rw [HTK.out, List.length_append, List.length_singleton]; omega, S3.out, fun x => by
                  rw [HTK.out, List.mem_append, List.mem_singleton, ← HFN.out x]
                  unfold upF
                  by_cases e : x = (b : Int) <;> simp [e]⟩
                case measure => simp [intOf]; omega
    · obtain rfl : k = m := by omega
      have HF := Lib.hid (right_end L1.out ok.out)
      clear hf ok
      have SH := Lib.hid S; clear S
      go_wp2
      go_ret
      exact ⟨by rw [HF.out]; rfl, SH.out.ext⟩
end Go.Proofs.YthlmcfbadhidbaaGreat
/- The program's labels (chapter 12): Check, Query. -/
namespace Go.Proofs.YthlmcfbadhidbaaGreat
open Go Go.RowKit
/-- rows of hits that are read -/
structure RdT (w : World) (p : Option Addr) (n : Nat) (hs : List Hd) (T : SrT) : Prop where
  row : Rd w 1 p n (encH hs)
  len : T.length = n
  each : ∀ j, j < n → Rd w 2 (nth hs j).p (nth hs j).n (encE (nth T j))
theorem RdT.ext {w w' : World} {p : Option Addr} {n : Nat} {hs : List Hd} {T : SrT} (h : RdT w p n hs T) (he : Ext w w') : RdT w' p n hs T := ⟨h.row.ext he, h.len, fun j hj => (h.each j hj).ext he⟩
def lchkB (A B : SrT) : Bool := decide (1 ≤ A.length ∧ A.length ≤ 200 ∧ B.length = A.length) && (List.range A.length).all fun v => rightB (nth A v) A.length && rightB (nth B v) A.length
theorem lchk_no1 {A B : SrT} (h : ¬ (1 ≤ A.length ∧ A.length ≤ 200 ∧ B.length = A.length)) : lchkB A B = false := by unfold lchkB; rw [decide_eq_false h]; rfl
theorem lchk_no2 {A B : SrT} {v : Nat} (hv : v < A.length) (h : (rightB (nth A v) A.length && rightB (nth B v) A.length) = false) : lchkB A B = false := by
  unfold lchkB
  have : ((List.range A.length).all fun v => rightB (nth A v) A.length && rightB (nth B v) A.length) = false := by
    rw [← Bool.not_eq_true, List.all_eq_true]
    intro hc
    have := hc v (List.mem_range.2 hv)
    rw [h] at this; cases this
  rw [this, Bool.and_false]
theorem lchk_yes {A B : SrT} (h : 1 ≤ A.length ∧ A.length ≤ 200 ∧ B.length = A.length) (h2 : ∀ v, v < A.length → (rightB (nth A v) A.length && rightB (nth B v) A.length) = true) : lchkB A B = true := by
  unfold lchkB
  rw [decide_eq_true h, Bool.true_and, List.all_eq_true]
  exact fun v hv => h2 v (List.mem_range.1 hv)
theorem lchk_parts {A B : SrT} (h : lchkB A B = true) : (1 ≤ A.length ∧ A.length ≤ 200 ∧ B.length = A.length) ∧ ∀ v, v < A.length → rightB (nth A v) A.length = true ∧ rightB (nth B v) A.length = true := by
  unfold lchkB at h
  rw [Bool.and_eq_true, decide_eq_true_eq, List.all_eq_true] at h
  refine ⟨h.1, fun v hv => ?_⟩
  have := h.2 v (List.mem_range.2 hv)
  rwa [Bool.and_eq_true] at this
theorem right_sm {l : List (Int × Int)} {n : Int} (h : rightB l n = true) : SmH l := fun x hx => by
  unfold rightB at h
  rw [Bool.and_eq_true, List.all_eq_true] at h
  have := h.1 x hx
  unfold okH at this
  rw [decide_eq_true_eq] at this
  omega
set_option maxRecDepth 100000 in
set_option maxHeartbeats 8000000 in
theorem LCheckG (pA : Option Addr) (nA cA : Nat) (hA : List Hd) (A : SrT) (pB : Option Addr) (nB cB : Nat) (hB : List Hd) (B : SrT) (w : World) (RA : RdT w pA nA hA A) (RB : RdT w pB nB hB B) : Calls Tryz.prog 34 #[.agg #[.slice pA nA cA, .slice pB nB cB]] w fun e w' => e = .returned (.bool (lchkB A B)) ∧ Ext w w' := by
  have S0 := Lib.hid ((Sep.start w).al #[.slice pA nA cA, .slice pB nB cB] 42 w.heap.size rfl)
  have hlA := RA.len
  have hlB := RB.len
  by_cases hp : 1 ≤ nA ∧ nA ≤ 200 ∧ nB = nA
  · obtain ⟨h1, h2, rfl⟩ := hp
    have c1 : decide ((nB:Int) < 1) = false := by simp; omega
    have c2 : decide ((200:Int) < nB) = false := by simp; omega
    have c3 : ((nB:Int) != (nB:Int)) = false := by simp
    have HY : Hid ((∀ v, v < nB → (rightB (nth A v) nB && rightB (nth B v) nB) = true) → lchkB A B = true) := fun h => lchk_yes ⟨by omega, by omega, by omega⟩ fun v hv => by have := h v (by omega); rw [hlA]; exact this
    have HN : Hid (∀ v, v < nB → (rightB (nth A v) nB && rightB (nth B v) nB) = false → lchkB A B = false) := fun v hv h => lchk_no2 (v := v) (by omega) (by rw [hlA]; exact h)
    have HPA := Lib.hid RA
    have HPB := Lib.hid RB
    have pA' := RA.row.ptr
    have pB' := RB.row.ptr
    clear hlA hlB RA RB
    go_enter Tryz.func34, Tryz.ntmps34
    go_wp2
    go_loopw [4, 22] (fun _ i wr => ∃ k : Nat, k ≤ nB ∧ i = .int .i64 k ∧ Hid (∀ v, v < k → (rightB (nth A v) nB && rightB (nth B v) nB) = true) ∧ Sep w wr [.blk w.heap.size 42 #[.slice pA nB cA, .slice pB nB cB]]) (fun _ i _ => nB - (intOf i).toNat)
    case atStart => exact ⟨0, Nat.zero_le _, rfl, fun v hv => by omega, S0.out⟩
    case round =>
      clear S0
      obtain ⟨k, hk, rfl, HK, S⟩ := hrel
      have b0 := (S.blk 0 rfl).cell 0
      have b1 := (S.blk 0 rfl).cell 1
      have bz := (S.blk 0 rfl).lt
      by_cases hlt : k < nB
      · have gA := S.ext.cell (HPA.out.row.cH hlt)
        have gB := S.ext.cell (HPB.out.row.cH hlt)
        have d1 : (0:Int) ≤ k := by omega
        have d2 : (k:Int) < nB := by omega
        have eA := HPA.out.each k hlt
        have eB := HPB.out.each k hlt
        have HRA := Lib.hid (fun W (h : Ext w W) => RightG (nth hA k).p (nth hA k).n (nth hA k).c (nth A k) nB W (eA.ext h) (by omega))
        have HRB := Lib.hid (fun W (h : Ext w W) => RightG (nth hB k).p (nth hB k).n (nth hB k).c (nth B k) nB W (eB.ext h) (by omega))
        obtain ⟨ha, hha⟩ : ∃ x, nth hA k = x := ⟨_, rfl⟩
        obtain ⟨hb, hhb⟩ : ∃ x, nth hB k = x := ⟨_, rfl⟩
        rw [hha] at gA HRA
        rw [hhb] at gB HRB
        obtain ⟨ap, an, ac⟩ := ha
        obtain ⟨bp, bn, bc⟩ := hb
        simp only at gA gB HRA HRB
        have gB3 := fun W (h : Ext wr W) => h.cell gB
        clear eA eB hha hhb
        cases hr1 : rightB (nth A k) nB with
        | false =>
          have HF : Hid (lchkB A B = false) := HN.out k hlt (by rw [hr1]; rfl)
          rw [hr1] at HRA
          clear hr1 HN HY HK gB3
          have SH := Lib.hid S; clear S
          go_wp2_with (go_at_call 59; have _t := SH; go_must (refine (HRA.out _ SH.out.ext).mono ?_; rintro e w3 ⟨rfl, hb⟩; have S3 := Lib.hid (SH.out.call hb); have z0 := ((SH.out.call hb).blk 0 rfl).cell 0; have z1 := ((SH.out.call hb).blk 0 rfl).cell 1; have zz := ((SH.out.call hb).blk 0 rfl).lt; clear hb))
          go_ret
          exact ⟨by rw [HF.out]; rfl, S3.out.ext⟩
        | true =>
          rw [hr1] at HRA
          cases hr2 : rightB (nth B k) nB with
          | false =>
            have HF : Hid (lchkB A B = false) := HN.out k hlt (by rw [hr1, hr2]; rfl)
            rw [hr2] at HRB
            clear hr1 hr2 HN HY HK
            have HG3 := Lib.hid gB3
            clear gB3
            have SH := Lib.hid S; clear S
            go_wp2_with (first | (go_at_call 59; have _t := S3; go_must (refine (HRB.out _ S3.out.ext).mono ?_; rintro e w4 ⟨rfl, hb⟩; have S4 := Lib.hid (S3.out.call hb); clear hb)) | (go_at_call 59; have _t := SH; go_must (refine (HRA.out _ SH.out.ext).mono ?_; rintro e w3 ⟨rfl, hb⟩; have S3 := Lib.hid (SH.out.call hb); have g3 := HG3.out _ hb; have z0 := ((SH.out.call hb).blk 0 rfl).cell 0; have z1 := ((SH.out.call hb).blk 0 rfl).cell 1; have zz := ((SH.out.call hb).blk 0 rfl).lt; clear hb)))
            go_ret
            exact ⟨by rw [HF.out]; rfl, S4.out.ext⟩
          | true =>
            have HK2 : Hid (∀ v, v < k + 1 → (rightB (nth A v) nB && rightB (nth B v) nB) = true) := fun v hv => by
              by_cases e : v = k
              · subst e; rw [hr1, hr2]; rfl
              · exact HK.out v (by omega)
            rw [hr2] at HRB
            clear hr1 hr2 HN HY HK
            have HG3 := Lib.hid gB3
            clear gB3
            have SH := Lib.hid S; clear S
            go_wp2_with (first | (go_at_call 59; have _t := S3; go_must (refine (HRB.out _ S3.out.ext).mono ?_; rintro e w4 ⟨rfl, hb⟩; have S4 := Lib.hid (S3.out.call hb); clear hb)) | (go_at_call 59; have _t := SH; go_must (refine (HRA.out _ SH.out.ext).mono ?_; rintro e w3 ⟨rfl, hb⟩; have S3 := Lib.hid (SH.out.call hb); have g3 := HG3.out _ hb; have z0 := ((SH.out.call hb).blk 0 rfl).cell 0; have z1 := ((SH.out.call hb).blk 0 rfl).cell 1; have zz := ((SH.out.call hb).blk 0 rfl).lt; clear hb)))
            go_roundw
            case rel => exact ⟨k + 1, by omega, by go_num, HK2.out, S4.out⟩
            case measure => simp [intOf]; omega
      · obtain rfl : k = nB := by omega
        have HF : Hid (lchkB A B = true) := HY.out HK.out
        have SH := Lib.hid S; clear S
        go_wp2
        go_ret
        exact ⟨by rw [HF.out]; rfl, SH.out.ext⟩
  · have HF : Hid (lchkB A B = false) := lchk_no1 (by omega)
    clear RA RB hlA hlB
    by_cases h1 : nA < 1
    · have c1 : decide ((nA:Int) < 1) = true := by simp; omega
      clear hp h1
      go_enter Tryz.func34, Tryz.ntmps34
      go_wp2
      go_ret
      exact ⟨by rw [HF.out]; rfl, S0.out.ext⟩
    · have c1 : decide ((nA:Int) < 1) = false := by simp; omega
      by_cases h2 : 200 < nA
      · have c2 : decide ((200:Int) < nA) = true := by simp; omega
        clear hp h1 h2
        go_enter Tryz.func34, Tryz.ntmps34
        go_wp2
        go_ret
        exact ⟨by rw [HF.out]; rfl, S0.out.ext⟩
      · have c2 : decide ((200:Int) < nA) = false := by simp; omega
        have c3 : ((nB:Int) != (nA:Int)) = true := by simp; omega
        clear hp h1 h2
        go_enter Tryz.func34, Tryz.ntmps34
        go_wp2
        go_ret
        exact ⟨by rw [HF.out]; rfl, S0.out.ext⟩
end Go.Proofs.YthlmcfbadhidbaaGreat
/- The program's labels (chapter 12): Query. -/
namespace Go.Proofs.YthlmcfbadhidbaaGreat
open Go Go.RowKit
def queryB (A B : SrT) (f t : Int) : Bool := lchkB A B && decide (0 ≤ f) && decide (f < A.length) && decide (0 ≤ t) && decide (t < A.length)
def queryN (A B : SrT) (f t : Int) : Int := if queryB A B f t = true then (leastV (nth A f.toNat) (nth B t.toNat)).1 else 0
def queryO (A B : SrT) (f t : Int) : Bool := if queryB A B f t = true then (leastV (nth A f.toNat) (nth B t.toNat)).2 else false
def queryC (A B : SrT) (f t : Int) : Int := if queryB A B f t = true then 0 else 1
set_option maxRecDepth 100000 in
set_option maxHeartbeats 8000000 in
theorem LQueryG (pA : Option Addr) (nA cA : Nat) (hA : List Hd) (A : SrT) (pB : Option Addr) (nB cB : Nat) (hB : List Hd) (B : SrT) (f t : Int) (w : World) (RA : RdT w pA nA hA A) (RB : RdT w pB nB hB B) : Calls Tryz.prog 32 #[.agg #[.slice pA nA cA, .slice pB nB cB], .int .i64 f, .int .i64 t] w fun e w' => e = .returned (.tuple #[.int .i64 (queryN A B f t), .bool (queryO A B f t), .int .i64 (queryC A B f t)]) ∧ Ext w w' := by
  have S0 := Lib.hid ((Sep.start w).al #[.slice pA nA cA, .slice pB nB cB] 42 w.heap.size rfl)
  have HC := Lib.hid (fun W (h : Ext w W) => LCheckG pA nA cA hA A pB nB cB hB B W (RA.ext h) (RB.ext h))
  have hlA := RA.len
  cases hc : lchkB A B with
  | false =>
    rw [hc] at HC
    clear RA RB
    have hq : queryB A B f t = false := by (unfold queryB; rw [hc]; rfl)
    have HQ : Hid (queryN A B f t = 0 ∧ queryO A B f t = false ∧ queryC A B f t = 1) := by (unfold Hid queryN queryO queryC; rw [hq]; exact ⟨rfl, rfl, rfl⟩)
    clear hq hlA hc
    go_enter Tryz.func32, Tryz.ntmps32
    go_wp2_with (go_at_call 34; go_must (refine (HC.out _ S0.out.ext).mono ?_; rintro e w1 ⟨rfl, hb⟩; have S1 := Lib.hid (S0.out.call hb); have x0 := ((S0.out.call hb).blk 0 rfl).cell 0; have x1 := ((S0.out.call hb).blk 0 rfl).cell 1; have xz := ((S0.out.call hb).blk 0 rfl).lt; clear hb))
    go_ret3
    exact ⟨by rw [HQ.out.1, HQ.out.2.1, HQ.out.2.2]; rfl, S1.out.ext⟩
  | true =>
    rw [hc] at HC
    by_cases h1 : f < 0
    · have c1 : decide (f < 0) = true := by simpa using h1
      clear RA RB
      have hq : queryB A B f t = false := by (unfold queryB; rw [hc, decide_eq_false (show ¬ 0 ≤ f by omega)]; rfl)
      have HQ : Hid (queryN A B f t = 0 ∧ queryO A B f t = false ∧ queryC A B f t = 1) := by (unfold Hid queryN queryO queryC; rw [hq]; exact ⟨rfl, rfl, rfl⟩)
      clear hq hlA hc h1
      go_enter Tryz.func32, Tryz.ntmps32
      go_wp2_with (go_at_call 34; go_must (refine (HC.out _ S0.out.ext).mono ?_; rintro e w1 ⟨rfl, hb⟩; have S1 := Lib.hid (S0.out.call hb); have x0 := ((S0.out.call hb).blk 0 rfl).cell 0; have x1 := ((S0.out.call hb).blk 0 rfl).cell 1; have xz := ((S0.out.call hb).blk 0 rfl).lt; clear hb))
      go_ret3
      exact ⟨by rw [HQ.out.1, HQ.out.2.1, HQ.out.2.2]; rfl, S1.out.ext⟩
    · have c1 : decide (f < 0) = false := by simpa using h1
      by_cases h2 : (nA:Int) ≤ f
      · have c2 : decide ((nA:Int) ≤ f) = true := by simpa using h2
        clear RA RB
        have hq : queryB A B f t = false := by (unfold queryB; rw [decide_eq_false (show ¬ f < A.length by omega)]; simp)
        have HQ : Hid (queryN A B f t = 0 ∧ queryO A B f t = false ∧ queryC A B f t = 1) := by (unfold Hid queryN queryO queryC; rw [hq]; exact ⟨rfl, rfl, rfl⟩)
        clear hq hlA hc h1 h2
        go_enter Tryz.func32, Tryz.ntmps32
        go_wp2_with (go_at_call 34; go_must (refine (HC.out _ S0.out.ext).mono ?_; rintro e w1 ⟨rfl, hb⟩; have S1 := Lib.hid (S0.out.call hb); have x0 := ((S0.out.call hb).blk 0 rfl).cell 0; have x1 := ((S0.out.call hb).blk 0 rfl).cell 1; have xz := ((S0.out.call hb).blk 0 rfl).lt; clear hb))
        go_ret3
        exact ⟨by rw [HQ.out.1, HQ.out.2.1, HQ.out.2.2]; rfl, S1.out.ext⟩
      · have c2 : decide ((nA:Int) ≤ f) = false := by simpa using h2
        by_cases h3 : t < 0
        · have c3 : decide (t < 0) = true := by simpa using h3
          clear RA RB
          have hq : queryB A B f t = false := by (unfold queryB; rw [decide_eq_false (show ¬ 0 ≤ t by omega)]; simp)
          have HQ : Hid (queryN A B f t = 0 ∧ queryO A B f t = false ∧ queryC A B f t = 1) := by (unfold Hid queryN queryO queryC; rw [hq]; exact ⟨rfl, rfl, rfl⟩)
          clear hq hlA hc h1 h2 h3
          go_enter Tryz.func32, Tryz.ntmps32
          go_wp2_with (go_at_call 34; go_must (refine (HC.out _ S0.out.ext).mono ?_; rintro e w1 ⟨rfl, hb⟩; have S1 := Lib.hid (S0.out.call hb); have x0 := ((S0.out.call hb).blk 0 rfl).cell 0; have x1 := ((S0.out.call hb).blk 0 rfl).cell 1; have xz := ((S0.out.call hb).blk 0 rfl).lt; clear hb))
          go_ret3
          exact ⟨by rw [HQ.out.1, HQ.out.2.1, HQ.out.2.2]; rfl, S1.out.ext⟩
        · have c3 : decide (t < 0) = false := by simpa using h3
          by_cases h4 : (nA:Int) ≤ t
          · have c4 : decide ((nA:Int) ≤ t) = true := by simpa using h4
            clear RA RB
            have hq : queryB A B f t = false := by (unfold queryB; rw [decide_eq_false (show ¬ t < A.length by omega)]; simp)
            have HQ : Hid (queryN A B f t = 0 ∧ queryO A B f t = false ∧ queryC A B f t = 1) := by (unfold Hid queryN queryO queryC; rw [hq]; exact ⟨rfl, rfl, rfl⟩)
            clear hq hlA hc h1 h2 h3 h4
            go_enter Tryz.func32, Tryz.ntmps32
            go_wp2_with (go_at_call 34; go_must (refine (HC.out _ S0.out.ext).mono ?_; rintro e w1 ⟨rfl, hb⟩; have S1 := Lib.hid (S0.out.call hb); have x0 := ((S0.out.call hb).blk 0 rfl).cell 0; have x1 := ((S0.out.call hb).blk 0 rfl).cell 1; have xz := ((S0.out.call hb).blk 0 rfl).lt; clear hb))
            go_ret3
            exact ⟨by rw [HQ.out.1, HQ.out.2.1, HQ.out.2.2]; rfl, S1.out.ext⟩
          · have c4 : decide ((nA:Int) ≤ t) = false := by simpa using h4
            have hq : queryB A B f t = true := by
              unfold queryB
              rw [hc, decide_eq_true (show 0 ≤ f by omega), decide_eq_true (show f < A.length by omega), decide_eq_true (show 0 ≤ t by omega), decide_eq_true (show t < A.length by omega)]; rfl
            unfold queryN queryO queryC
            rw [if_pos hq, if_pos hq, if_pos hq]
            obtain ⟨a, rfl⟩ : ∃ a : Nat, f = a := ⟨f.toNat, by omega⟩
            obtain ⟨b, rfl⟩ : ∃ b : Nat, t = b := ⟨t.toNat, by omega⟩
            rw [Int.toNat_natCast, Int.toNat_natCast]
            obtain ⟨⟨p1, p2, p3⟩, p4⟩ := lchk_parts hc
            have hlB := RB.len
            have ha : a < nA := by omega
            have hb : b < nB := by omega
            have eA := RA.each a ha
            have eB := RB.each b hb
            have gA := RA.row.cH ha
            have gB := RB.row.cH hb
            have qA := RA.row.ptr
            have qB := RB.row.ptr
            have HL := Lib.hid (fun W (h : Ext w W) => LeastG (nth hA a).p (nth hA a).n (nth hA a).c (nth A a) (nth hB b).p (nth hB b).n (nth hB b).c (nth B b) W (eA.ext h) (eB.ext h) (right_sm (p4 a (by omega)).1) (right_sm (p4 b (by omega)).2))
            obtain ⟨xa, hxa⟩ : ∃ x, nth hA a = x := ⟨_, rfl⟩
            obtain ⟨xb, hxb⟩ : ∃ x, nth hB b = x := ⟨_, rfl⟩
            rw [hxa] at gA HL
            rw [hxb] at gB HL
            obtain ⟨ap, an, ac⟩ := xa
            obtain ⟨bp, bn, bc⟩ := xb
            simp only at gA gB HL
            obtain ⟨r, hr⟩ : ∃ r, leastV (nth A a) (nth B b) = r := ⟨_, rfl⟩
            rw [hr] at HL ⊢
            obtain ⟨rn, rk⟩ := r
            simp only at HL ⊢
            have d1 : (0:Int) ≤ a := by omega
            have d2 : (a:Int) < nA := by omega
            have d3 : (0:Int) ≤ b := by omega
            have d4 : (b:Int) < nB := by omega
            have HGA := Lib.hid gA
            have HGB := Lib.hid gB
            have c2n : decide (nA ≤ a) = false := by simp; omega
            have c4n : decide (nA ≤ b) = false := by simp; omega
            clear RA RB hlA hlB hq hc h1 h2 h3 h4 p1 p2 p3 p4 eA eB hxa hxb hr gA gB
            go_enter Tryz.func32, Tryz.ntmps32
            go_wp2_with (go_at_call 34; go_must (refine (HC.out _ S0.out.ext).mono ?_; rintro e w1 ⟨rfl, hb⟩; have S1 := Lib.hid (S0.out.call hb); have x0 := ((S0.out.call hb).blk 0 rfl).cell 0; have x1 := ((S0.out.call hb).blk 0 rfl).cell 1; have xz := ((S0.out.call hb).blk 0 rfl).lt; clear hb))
            have gA := S1.out.ext.cell HGA.out
            have gB := S1.out.ext.cell HGB.out
            have u0 := fun x : ExtOf w1 => x.ext.cell x0
            have u1 := fun x : ExtOf w1 => x.ext.cell x1
            have u2 := fun x : ExtOf w1 => x.ext.cell gA
            have u3 := fun x : ExtOf w1 => x.ext.cell gB
            refine wp_region_mix [true, true, true, true, true, true, true, true, true, true, false, false, false, false, false, false] (NearQ 10 rn rk) (by kernel_rfl) (by kernel_rfl) (by kernel_rfl) (fun _ _ _ _ _ h => ⟨h.a, h.b', h.c1, h.c2, h.d1, h.d2⟩) ?_
            simp only [nfM]
            repeat (go_big_quiet_step ((fail)))
            refine wpQuiet_nil ⟨⟨fun vs W1 hE hd => ?_, fun vs W1 hE hd => ?_, fun vs W1 hE hd => ?_, fun vs W1 hE hd => ?_, fun vs W1 hE hd => ?_, fun vs W1 hE hd => ?_, trivial⟩, fun vs W1 hE hkn => ?_⟩
            · (simp [putM, go_sem]; exact (HL.out _ (Ext.trans S1.out.ext hE)).mono fun e w' ⟨h1, h2⟩ => ⟨_, h1, NearQ.of (by simp), h2⟩)
            · (have k1 := NearQ.a (hd 10 (by decide +kernel) rfl) rfl; simp [putM, execOp, go_sem, k1]; exact ⟨NearQ.of (by simp), Below.refl _ _⟩)
            · (have k1 := NearQ.b' (hd 11 (by decide +kernel) rfl) rfl; simp [putM, execOp, go_sem, k1]; exact ⟨NearQ.of (by simp), Below.refl _ _⟩)
            · (have k1 := NearQ.b' (hd 11 (by decide +kernel) rfl) rfl; simp [putM, execOp, go_sem, k1]; exact ⟨NearQ.of (by simp), Below.refl _ _⟩)
            · (have k1 := NearQ.c1 (hd 12 (by decide +kernel) rfl) rfl; simp [putM, execOp, go_sem, k1]; exact ⟨NearQ.of (by simp), Below.refl _ _⟩)
            · (have k1 := NearQ.c2 (hd 13 (by decide +kernel) rfl) rfl; simp [putM, execOp, go_sem, k1]; exact ⟨NearQ.of (by simp), Below.refl _ _⟩)
            simp only [knowM] at hkn
            have k1 := NearQ.d1 hkn.2.2.2.2.1 rfl
            have k2 := NearQ.d2 hkn.2.2.2.2.2.1 rfl
            have S2 := Lib.hid (S1.out.call hE)
            simp only [putM, k1, k2, List.length_cons, List.length_nil, Nat.zero_add, Nat.reduceAdd, List.drop_succ_cons, List.drop_zero]
            try simp [Act.put]
            clear u0 u1 u2 u3 k1 k2 hkn x0 x1 xz gA gB hE
            go_wp2
            go_ret3
            exact ⟨rfl, S2.out.ext⟩
end Go.Proofs.YthlmcfbadhidbaaGreat
/- The program's labels (chapter 12): Size. -/
namespace Go.Proofs.YthlmcfbadhidbaaGreat
open Go Go.RowKit
/-- how many hits the first k rows have -/
def hitsN (T : SrT) (k : Nat) : Nat := ((T.take k).map List.length).sum
theorem hitsN_step {T : SrT} {k : Nat} (hk : k < T.length) : hitsN T (k + 1) = hitsN T k + (nth T k).length := by
  unfold hitsN
  rw [take_succ_nth T k hk, List.map_append, List.sum_append]; simp
theorem hitsN_le {T : SrT} {k m : Nat} (h : k ≤ m) : hitsN T k ≤ hitsN T m := by
  induction h with
  | refl => exact Nat.le_refl _
  | @step m _ ih =>
    refine Nat.le_trans ih ?_
    by_cases hm : m < T.length
    · rw [hitsN_step hm]; omega
    · unfold hitsN
      rw [List.take_of_length_le (by omega), List.take_of_length_le (by omega)]; exact Nat.le_refl _
def lsize (A B : SrT) : Nat := hitsN A A.length + hitsN B B.length
theorem ix0 (pA : Option Addr) (nA cA : Nat) (pB : Option Addr) (nB cB : Nat) (W : World) : (Instr.index 94 (.agg #[.slice pA nA cA, .slice pB nB cB]) (.int .i64 0)).run Tryz.prog W = .ok (.slice pA nA cA) W := by kernel_rfl
theorem ix1 (pA : Option Addr) (nA cA : Nat) (pB : Option Addr) (nB cB : Nat) (W : World) : (Instr.index 94 (.agg #[.slice pA nA cA, .slice pB nB cB]) (.int .i64 1)).run Tryz.prog W = .ok (.slice pB nB cB) W := by kernel_rfl
set_option maxRecDepth 100000 in
set_option maxHeartbeats 8000000 in
theorem LSizeG (pA : Option Addr) (nA cA : Nat) (hA : List Hd) (A : SrT) (pB : Option Addr) (nB cB : Nat) (hB : List Hd) (B : SrT) (w : World) (RA : RdT w pA nA hA A) (RB : RdT w pB nB hB B) (hs : lsize A B ≤ 9223372036854775807) (hnA : nA ≤ 100000) (hnB : nB ≤ 100000) : Calls Tryz.prog 36 #[.agg #[.slice pA nA cA, .slice pB nB cB]] w fun e w' => e = .returned (.int .i64 (lsize A B : Nat)) ∧ Ext w w' := by
  have S0 := Lib.hid ((Sep.start w).al #[.slice pA nA cA, .slice pB nB cB] 42 w.heap.size rfl)
  have hlA := RA.len
  have hlB := RB.len
  have qA := RA.row.ptr
  have qB := RB.row.ptr
  have HA := Lib.hid RA
  have HB := Lib.hid RB
  have HSZ : Hid (lsize A B = hitsN A nA + hitsN B nB) := by unfold Hid lsize; rw [hlA, hlB]
  have HBD : Hid (∀ a b, a ≤ nA → b ≤ nB → hitsN A a + hitsN B b ≤ 9223372036854775807) := fun a b h1 h2 => by
    have := hitsN_le (T := A) h1
    have := hitsN_le (T := B) h2
    have := HSZ.out
    omega
  have HLA := Lib.hid hlA
  have HLB := Lib.hid hlB
  clear RA RB hlA hlB hs
  have IX0 := ix0 pA nA cA pB nB cB
  have IX1 := ix1 pA nA cA pB nB cB
  go_enter Tryz.func36, Tryz.ntmps36
  go_wp2
  go_loopw [3, 5, 7, 13] (fun v3 _ _ i wr => ∃ k : Nat, ((k = 0 ∧ v3 = .int .i64 0) ∨ (k = 1 ∧ v3 = .int .i64 (hitsN A nA : Nat)) ∨ (k = 2 ∧ v3 = .int .i64 (lsize A B : Nat))) ∧ i = .int .i64 k ∧ Ext w wr) (fun _ _ _ i _ => 2 - (intOf i).toNat)
  case atStart => exact ⟨0, .inl ⟨rfl, rfl⟩, rfl, S0.out.ext⟩
  case round =>
    clear S0
    obtain ⟨k, hc, rfl, hE⟩ := hrel
    have HE := Lib.hid hE; clear hE
    rcases hc with ⟨rfl, rfl⟩ | ⟨rfl, rfl⟩ | ⟨rfl, rfl⟩
    · go_wp2
      go_loopw [3, 7, 18] (fun v3 _ i wx => ∃ k : Nat, k ≤ nA ∧ i = .int .i64 k ∧ v3 = .int .i64 ((0 + hitsN A k : Nat) : Int) ∧ Ext w wx) (fun _ _ i _ => nA - (intOf i).toNat)
      case atStart => exact ⟨0, Nat.zero_le _, rfl, rfl, HE.out⟩
      case round =>
        clear HE
        obtain ⟨j, hj, rfl, rfl, hE⟩ := hrel
        by_cases hlj : j < nA
        · have g1 := hE.cell (HA.out.row.cH hlj)
          have hen := (HA.out.each j hlj).nE
          have hst := hitsN_step (T := A) (k := j) (by rw [HLA.out]; exact hlj)
          have hbd := HBD.out (j + 1) 0 (by omega) (Nat.zero_le _)
          have d1 : (0:Int) ≤ j := by omega
          have d2 : (j:Int) < nA := by omega
          obtain ⟨x, hx⟩ : ∃ x, nth hA j = x := ⟨_, rfl⟩
          rw [hx] at g1 hen
          obtain ⟨xp, xn, xc⟩ := x
          simp only at g1 hen
          rw [← hen] at hst
          rw [hst] at hbd
          have HST := Lib.hid hst
          generalize hitsN A j = sj at *
          clear hx hst hen
          have HE := Lib.hid hE; clear hE
          go_wp2
          go_roundw
          case rel => exact ⟨j + 1, by omega, by go_num, by rw [HST.out]; go_num, HE.out⟩
          case measure => simp [intOf]; omega
        · obtain rfl : j = nA := by omega
          have HE := Lib.hid hE; clear hE
          go_wp2
          go_roundw
          case rel => exact ⟨1, .inr (.inl ⟨rfl, by rw [Nat.zero_add]⟩), by go_num, HE.out⟩
          case measure => simp [intOf]
    · have hsa := HBD.out nA 0 (Nat.le_refl _) (Nat.zero_le _)
      obtain ⟨sa, hsa2⟩ : ∃ sa, hitsN A nA = sa := ⟨_, rfl⟩
      rw [hsa2] at hsa ⊢
      have HSA := Lib.hid hsa2
      clear hsa2
      go_wp2
      go_loopw [3, 7, 18] (fun v3 _ i wx => ∃ k : Nat, k ≤ nB ∧ i = .int .i64 k ∧ v3 = .int .i64 ((sa + hitsN B k : Nat) : Int) ∧ Ext w wx) (fun _ _ i _ => nB - (intOf i).toNat)
      case atStart => exact ⟨0, Nat.zero_le _, rfl, rfl, HE.out⟩
      case round =>
        clear HE
        obtain ⟨j, hj, rfl, rfl, hE⟩ := hrel
        by_cases hlj : j < nB
        · have g1 := hE.cell (HB.out.row.cH hlj)
          have hen := (HB.out.each j hlj).nE
          have hst := hitsN_step (T := B) (k := j) (by rw [HLB.out]; exact hlj)
          have hbd := HBD.out nA (j + 1) (Nat.le_refl _) (by omega)
          rw [HSA.out] at hbd
          have d1 : (0:Int) ≤ j := by omega
          have d2 : (j:Int) < nB := by omega
          obtain ⟨x, hx⟩ : ∃ x, nth hB j = x := ⟨_, rfl⟩
          rw [hx] at g1 hen
          obtain ⟨xp, xn, xc⟩ := x
          simp only at g1 hen
          rw [← hen] at hst
          rw [hst] at hbd
          have HST := Lib.hid hst
          generalize hitsN B j = sj at *
          clear hx hst hen
          have HE := Lib.hid hE; clear hE
          go_wp2
          go_roundw
          case rel => exact ⟨j + 1, by omega, by go_num, by rw [HST.out]; go_num, HE.out⟩
          case measure => simp [intOf]; omega
        · obtain rfl : j = nB := by omega
          have HE := Lib.hid hE; clear hE
          go_wp2
          go_roundw
          case rel => exact ⟨2, .inr (.inr ⟨rfl, by rw [HSZ.out, HSA.out]⟩), by go_num, HE.out⟩
          case measure => simp [intOf]
    · go_wp2
      go_ret
      exact ⟨rfl, HE.out⟩
end Go.Proofs.YthlmcfbadhidbaaGreat
/- The document's Same (chapters 9 and 12, reference): what is the same is said to be. -/
namespace Go.Proofs.YthlmcfbadhidbaaGreat
open Go Go.RowKit
theorem eqHit (a b c d : Int) (w : World) : (binOp .eql 54 (.agg #[.int .i64 a, .int .i64 b]) (.agg #[.int .i64 c, .int .i64 d])).run Tryz.prog w = .ok (.bool (eqE (a, b) (c, d))) w := by
  have u3 := Tryz.underlying3
  have a3 := Tryz.isAgg3
  have z3 := Tryz.sizeOf3
  have hS : Tryz.prog.underlying 54 = some (.struct (Tryz.prog.fieldsOf 54)) := by kernel_rfl
  have hp : Tryz.prog.stoodInHeld 54 = false := by kernel_rfl
  rw [run_eql_struct, show (10000 : Nat) = 9999 + 1 from rfl, run_equalIn_agg w 9999 54 _ _ hS hp]
  simp only [Program.fieldsOf, Tryz.underlying54]
  go_simp
  by_cases h1 : a = c <;> by_cases h2 : b = d <;> simp [h1, h2, eqE]
theorem neqHit (a b c d : Int) (w : World) : (binOp .neq 54 (.agg #[.int .i64 a, .int .i64 b]) (.agg #[.int .i64 c, .int .i64 d])).run Tryz.prog w = .ok (.bool (!eqE (a, b) (c, d))) w := by
  have h := eqHit a b c d w
  rw [run_eql_struct] at h
  rw [run_neq_struct]
  generalize (Op.equalIn 10000 54 (.agg #[.int .i64 a, .int .i64 b]) (.agg #[.int .i64 c, .int .i64 d])).run Tryz.prog w = r at h ⊢
  cases r with
  | ok x w1 => simp only [Result.andThen_ok, Result.ok.injEq, Value.bool.injEq] at h ⊢; rw [h.1, h.2]; simp
  | halt x w1 => simp [Result.andThen] at h
theorem guardHit (op : BinOp) (x y : Operand) (xs ys : Array Value) (w : World) : (eqGuard op 54 x y (.agg xs) (.agg ys)).run Tryz.prog w = .ok () w := run_eqGuard_agg w op 54 x y xs ys (by kernel_rfl)

attribute [local go_sem ↓] eqHit neqHit guardHit
set_option maxRecDepth 100000 in
set_option maxHeartbeats 4000000 in
theorem HitsY (p q : Option Addr) (n m c d : Nat) (E : List (Int × Int)) (w : World) (h1 : Rd w 2 p n (encE E)) (h2 : Rd w 2 q m (encE E)) :
    Calls Tryz.prog 75 #[.slice p n c, .slice q m d] w fun e w' => e = .returned (.bool true) ∧ Ext w w' := by
  obtain rfl : n = m := by rw [h1.nE, h2.nE]
  have p1 := h1.ptr
  have p2 := h2.ptr
  have n1 := h1.small
  have H1 := Lib.hid h1; clear h1
  have H2 := Lib.hid h2; clear h2
  go_enter Tryz.func75, Tryz.ntmps75
  go_wp2
  go_loopw [5] (fun i wr => ∃ k : Nat, k ≤ n ∧ i = .int .i64 k ∧ Ext w wr) (fun i _ => n - (intOf i).toNat)
  case atStart => exact ⟨0, Nat.zero_le _, rfl, Below.refl _ _⟩
  case round =>
    obtain ⟨k, hk, rfl, hE⟩ := hrel
    by_cases hlt : k < n
    · have g1 := hE.cell (H1.out.cE hlt)
      have g2 := hE.cell (H1.out.cE2 hlt)
      have g3 := hE.cell (H2.out.cE hlt)
      have g4 := hE.cell (H2.out.cE2 hlt)
      have d1 : (0:Int) ≤ k := by omega
      have d2 : (k:Int) < n := by omega
      have hq : eqE ((nth E k).1, (nth E k).2) ((nth E k).1, (nth E k).2) = true := by simp [eqE]
      have HE := Lib.hid hE; clear hE
      go_wp2
      go_quiet (fail)
      go_wp2
      go_roundw
      case rel => exact ⟨k + 1, by omega, by go_num, HE.out.drewN _⟩
      case measure => simp [intOf]; omega
    · have HE := Lib.hid hE; clear hE
      go_wp2
      go_ret
      exact ⟨rfl, HE.out⟩
set_option maxRecDepth 100000 in
set_option maxHeartbeats 4000000 in
theorem HitRowsY (p q : Option Addr) (n m c d : Nat) (hs gs : List Hd) (T : SrT) (w : World) (h1 : RdT w p n hs T) (h2 : RdT w q m gs T) :
    Calls Tryz.prog 57 #[.slice p n c, .slice q m d] w fun e w' => e = .returned (.bool true) ∧ Ext w w' := by
  obtain rfl : n = m := by rw [← h1.len, h2.len]
  have p1 := h1.row.ptr
  have p2 := h2.row.ptr
  have n1 := h1.row.small
  have HY := Lib.hid (fun j (hj : j < n) W (h : Ext w W) => HitsY (nth hs j).p (nth gs j).p (nth hs j).n (nth gs j).n (nth hs j).c (nth gs j).c (nth T j) W ((h1.each j hj).ext h) ((h2.each j hj).ext h))
  have H1 := Lib.hid h1; clear h1
  have H2 := Lib.hid h2; clear h2
  go_enter Tryz.func57, Tryz.ntmps57
  go_wp2
  go_loopw [5] (fun i wr => ∃ k : Nat, k ≤ n ∧ i = .int .i64 k ∧ Ext w wr) (fun i _ => n - (intOf i).toNat)
  case atStart => exact ⟨0, Nat.zero_le _, rfl, Below.refl _ _⟩
  case round =>
    obtain ⟨k, hk, rfl, hE⟩ := hrel
    by_cases hlt : k < n
    · have g1 := hE.cell (H1.out.row.cH hlt)
      have g2 := hE.cell (H2.out.row.cH hlt)
      have HYk := Lib.hid (fun x : ExtOf wr => HY.out k hlt x.val (Ext.trans hE x.ext))
      obtain ⟨x, hx⟩ : ∃ x, nth hs k = x := ⟨_, rfl⟩
      obtain ⟨y, hy⟩ : ∃ y, nth gs k = y := ⟨_, rfl⟩
      rw [hx] at g1 HYk
      rw [hy] at g2 HYk
      obtain ⟨xp, xn, xc⟩ := x
      obtain ⟨yp, yn, yc⟩ := y
      simp only at g1 g2 HYk
      have d1 : (0:Int) ≤ k := by omega
      have d2 : (k:Int) < n := by omega
      clear hx hy
      have HE := Lib.hid hE; clear hE
      go_wp2
      have u1 := fun x : ExtOf wr => x.ext.cell g1
      have u2 := fun x : ExtOf wr => x.ext.cell g2
      refine wp_region_ext (by kernel_rfl) (by kernel_rfl) ?_
      repeat (go_big_quiet_step (((go_at_call 75; exact Calls.ext_of (HYk.out _)))))
      refine wpQuiet_nil ?_
      rintro w9 ⟨⟨_, hb9⟩, rfl⟩
      go_wp2
      go_roundw
      case rel => exact ⟨k + 1, by omega, by go_num, Ext.trans HE.out hb9⟩
      case measure => simp [intOf]; omega
    · have HE := Lib.hid hE; clear hE
      go_wp2
      go_ret
      exact ⟨rfl, HE.out⟩
set_option maxRecDepth 100000 in
set_option maxHeartbeats 4000000 in
theorem LSameY (pA : Option Addr) (nA cA : Nat) (hA : List Hd) (A : SrT) (pB : Option Addr) (nB cB : Nat) (hB : List Hd) (B : SrT) (pC : Option Addr) (nC cC : Nat) (hC : List Hd) (pD : Option Addr) (nD cD : Nat) (hD : List Hd) (w : World)
    (RA : RdT w pA nA hA A) (RB : RdT w pB nB hB B) (RC : RdT w pC nC hC A) (RD : RdT w pD nD hD B) :
    Calls Tryz.prog 29 #[.agg #[.slice pA nA cA, .slice pB nB cB], .agg #[.slice pC nC cC, .slice pD nD cD]] w fun e w' => e = .returned (.bool true) ∧ Ext w w' := by
  have S0 := Lib.hid (((Sep.start w).al #[.slice pA nA cA, .slice pB nB cB] 42 w.heap.size rfl).al #[.slice pC nC cC, .slice pD nD cD] 42 (w.heap.size + 1) (by simp))
  have H1 := Lib.hid (fun W (h : Ext w W) => HitRowsY pA pC nA nC cA cC hA hC A W (RA.ext h) (RC.ext h))
  have H2 := Lib.hid (fun W (h : Ext w W) => HitRowsY pB pD nB nD cB cD hB hD B W (RB.ext h) (RD.ext h))
  clear RA RB RC RD
  go_enter Tryz.func29, Tryz.ntmps29
  go_wp2_with (first
    | (go_at_call 57; have _t := S1; go_must (refine (H2.out _ S1.out.ext).mono ?_; rintro e w2 ⟨rfl, hb⟩; have S2 := Lib.hid (S1.out.call hb); clear hb))
    | (go_at_call 57; go_must (refine (H1.out _ S0.out.ext).mono ?_; rintro e w1 ⟨rfl, hb⟩; have S1 := Lib.hid (S0.out.call hb); have x0 := ((S0.out.call hb).blk 0 rfl).cell 0; have x1 := ((S0.out.call hb).blk 0 rfl).cell 1; have y0 := ((S0.out.call hb).blk 1 rfl).cell 0; have y1 := ((S0.out.call hb).blk 1 rfl).cell 1; have xz := ((S0.out.call hb).blk 0 rfl).lt; have yz := ((S0.out.call hb).blk 1 rfl).lt; clear hb)))
  go_ret
  exact ⟨rfl, S2.out.ext⟩
end Go.Proofs.YthlmcfbadhidbaaGreat
/- The document's example of chapter 12: its rows, their labels, and what is told of them. -/
namespace Go.Proofs.YthlmcfbadhidbaaGreat
open Go Go.RowKit
theorem rowsRd {w0 w : World} {A B : List Pc} {n i : Nat} {H : List Hd} {nx : Nat → List Int} {L : List Int} {k : Nat} {H0 : List Hd} {T0 : SrT} (S : Sep w0 w (A ++ (rowsS n H0 T0 H (labT nx n L k) ++ B))) (_hA : A.length = i) {p : Option Addr} (hr : Rd w 1 p n (encH H)) : RdT w p n H (labT nx n L k) := by
  subst _hA
  refine ⟨hr, labT_len .., fun j hj => ?_⟩
  have h := S.all _ (List.mem_append_right A (List.mem_of_getElem? (rowsS_at (Φ := B) (H0 := H0) (T0 := T0) (H := H) (T := labT nx n L k) hj)))
  exact Rd.of_own h.1 (own_sm h.1)
theorem BuildRd (po : Option Addr) (no co : Nat) (O : List Int) (pt : Option Addr) (nt ct : Nat) (T : List Int) (pr : Option Addr) (nr cr : Nat) (R : List Int) (pv : Option Addr) (nv cv : Nat) (V : List Int) (n : Nat) (w : World) (hO : Rd w 1 po no (encI O)) (hT : Rd w 1 pt nt (encI T)) (hR : Rd w 1 pr nr (encI R)) (hV : Rd w 1 pv nv (encI V)) (hct : nt ≤ ct) (hcv : nv ≤ cv) (hck : checkR O T R V = true) (hno : O.length = n + 1) :
    Calls Tryz.prog 26 #[.agg #[.slice po no co, .slice pt nt ct, .slice pr nr cr, .slice pv nv cv]] w fun e w' => ∃ qO cO qI cI HO HI, e = .returned (.tuple #[.agg #[.slice qO n cO, .slice qI n cI], .int .i64 0]) ∧ RdT w' qO n HO (labT (rowL R V) n (byL O R n) n) ∧ RdT w' qI n HI (labT (rowL O T) n (byL O R n) n) ∧ Ext w w' := by
  refine (BuildG_yes po no co O pt nt ct T pr nr cr R pv nv cv V n w hO hT hR hV hct hcv hck hno).mono ?_
  rintro e w' ⟨qO, cO, qI, cI, HO, HI, rfl, S⟩
  have r1 := S.rdx 0 rfl
  have r2 := S.rdx 1 rfl
  refine ⟨qO, cO, qI, cI, HO, HI, rfl, ?_, ?_, S.ext⟩
  · exact rowsRd (A := [_, _]) (i := 2) S rfl r1
  · exact rowsRd (A := .own 52 1 qO n cO (encH HO) :: .own 52 1 qI n cI (encH HI) :: rowsS n HO (labT (rowL R V) n (byL O R n) n) HO (labT (rowL R V) n (byL O R n) n)) (B := []) (i := _) S rfl r2
def e12E : List (Int × Int) := [(0, 1), (1, 2)]
def e12O : List Int := [0, 1, 2, 2]
def e12T : List Int := [1, 2]
def e12R : List Int := [0, 0, 1, 2]
def e12V : List Int := [0, 1]
def e12A : SrT := [[(1, 1), (0, 0)], [(1, 0)], [(2, 0)]]
def e12B : SrT := [[(0, 0)], [(1, 0)], [(1, 1), (2, 0)]]
theorem e12I : isB 3 e12E [[], [], []] = true := by decide +kernel
theorem e12O_eq : offL 3 e12E = e12O := by decide +kernel
theorem e12T_eq : toL e12E = e12T := by decide +kernel
theorem e12R_eq : offL 3 (turnE e12E) = e12R := by decide +kernel
theorem e12V_eq : toL (turnE e12E) = e12V := by decide +kernel
theorem e12Ck : checkR e12O e12T e12R e12V = true := by decide +kernel
theorem e12A_eq : labT (rowL e12R e12V) 3 (byL e12O e12R 3) 3 = e12A := by decide +kernel
theorem e12B_eq : labT (rowL e12O e12T) 3 (byL e12O e12R 3) 3 = e12B := by decide +kernel
theorem e12Q1 : queryN e12A e12B 0 2 = 2 ∧ queryO e12A e12B 0 2 = true ∧ queryC e12A e12B 0 2 = 0 := by decide +kernel
theorem e12Q2 : queryN e12A e12B 2 0 = 0 ∧ queryO e12A e12B 2 0 = false ∧ queryC e12A e12B 2 0 = 0 := by decide +kernel
theorem e12Q3 : queryN e12A e12B 3 0 = 0 ∧ queryO e12A e12B 3 0 = false ∧ queryC e12A e12B 3 0 = 1 := by decide +kernel
theorem e12C : lchkB e12A e12B = true := by decide +kernel
theorem e12S : lsize e12A e12B = 8 := by decide +kernel
theorem e12Qu1 (p : Option Addr) (c : Nat) (q : Option Addr) (d : Nat) (HA HB : List Hd) (w : World) (RA : RdT w p 3 HA e12A) (RB : RdT w q 3 HB e12B) : Calls Tryz.prog 32 #[.agg #[.slice p 3 c, .slice q 3 d], .int .i64 0, .int .i64 2] w fun e w' => e = .returned (.tuple #[.int .i64 2, .bool true, .int .i64 0]) ∧ Ext w w' := by
  have := LQueryG p 3 c HA e12A q 3 d HB e12B 0 2 w RA RB
  rw [e12Q1.1, e12Q1.2.1, e12Q1.2.2] at this
  exact this
theorem e12Qu2 (p : Option Addr) (c : Nat) (q : Option Addr) (d : Nat) (HA HB : List Hd) (w : World) (RA : RdT w p 3 HA e12A) (RB : RdT w q 3 HB e12B) : Calls Tryz.prog 32 #[.agg #[.slice p 3 c, .slice q 3 d], .int .i64 2, .int .i64 0] w fun e w' => e = .returned (.tuple #[.int .i64 0, .bool false, .int .i64 0]) ∧ Ext w w' := by
  have := LQueryG p 3 c HA e12A q 3 d HB e12B 2 0 w RA RB
  rw [e12Q2.1, e12Q2.2.1, e12Q2.2.2] at this
  exact this
theorem e12Qu3 (p : Option Addr) (c : Nat) (q : Option Addr) (d : Nat) (HA HB : List Hd) (w : World) (RA : RdT w p 3 HA e12A) (RB : RdT w q 3 HB e12B) : Calls Tryz.prog 32 #[.agg #[.slice p 3 c, .slice q 3 d], .int .i64 3, .int .i64 0] w fun e w' => e = .returned (.tuple #[.int .i64 0, .bool false, .int .i64 1]) ∧ Ext w w' := by
  have := LQueryG p 3 c HA e12A q 3 d HB e12B 3 0 w RA RB
  rw [e12Q3.1, e12Q3.2.1, e12Q3.2.2] at this
  exact this
theorem e12ChkG (p : Option Addr) (c : Nat) (q : Option Addr) (d : Nat) (HA HB : List Hd) (w : World) (RA : RdT w p 3 HA e12A) (RB : RdT w q 3 HB e12B) : Calls Tryz.prog 34 #[.agg #[.slice p 3 c, .slice q 3 d]] w fun e w' => e = .returned (.bool true) ∧ Ext w w' := by
  have := LCheckG p 3 c HA e12A q 3 d HB e12B w RA RB
  rw [e12C] at this
  exact this
theorem e12SizeG (p : Option Addr) (c : Nat) (q : Option Addr) (d : Nat) (HA HB : List Hd) (w : World) (RA : RdT w p 3 HA e12A) (RB : RdT w q 3 HB e12B) : Calls Tryz.prog 36 #[.agg #[.slice p 3 c, .slice q 3 d]] w fun e w' => e = .returned (.int .i64 8) ∧ Ext w w' := by
  have := LSizeG p 3 c HA e12A q 3 d HB e12B w RA RB (by rw [e12S]; decide) (by decide) (by decide)
  rw [e12S] at this
  exact this
theorem e12Cells : (#[.int .i64 0, .int .i64 1, .int .i64 1, .int .i64 2] : Array Value).toList = encE e12E := by simp [encE, e12E]
theorem made3l : (madeCells (Value.slice none 0 0).cells (3 * 1)).toList = [.slice none 0 0, .slice none 0 0, .slice none 0 0] := by kernel_rfl
theorem e12Mk (p q : Option Addr) (W : World) (h1 : Rd W 2 p 2 (encE e12E)) (h0 : Rd W 1 q 3 [.slice none 0 0, .slice none 0 0, .slice none 0 0]) : Calls Tryz.prog 46 #[.agg #[.int .i64 3, .slice p 2 2, .slice q 3 3]] W fun e w' =>
    ∃ po no co pt nt ct pr nr cr pv nv cv, e = .returned (.tuple #[.agg #[.slice po no co, .slice pt nt ct, .slice pr nr cr, .slice pv nv cv], .int .i64 0]) ∧ R4 w' po no pt nt pr nr pv nv e12O e12T e12R e12V ∧ nt ≤ ct ∧ nv ≤ cv ∧ Ext W w' := by
  have h2 : RdW W q 3 [⟨none, 0, 0⟩, ⟨none, 0, 0⟩, ⟨none, 0, 0⟩] [[], [], []] := ⟨rfl, h0, fun j hj => by
    have : j = 0 ∨ j = 1 ∨ j = 2 := by omega
    rcases this with rfl | rfl | rfl <;> exact Rd.nil _ _ _⟩
  have hz : SzW [[], [], []] := fun l hl s hs => by simp at hl; subst hl; cases hs
  refine (RMakeG_yes 3 _ 2 2 _ 3 3 e12E _ _ W h1 h2 hz e12I).mono ?_
  rintro e w' ⟨v, rfl, ⟨po, no, co, pt, nt, ct, pr, nr, cr, pv, nv, cv, rfl, k1, k2, k3, k4, k5, k6, k7, k8⟩, hb⟩
  rw [e12O_eq] at k1
  rw [e12T_eq] at k2
  rw [e12R_eq] at k3
  rw [e12V_eq] at k4
  exact ⟨po, no, co, pt, nt, ct, pr, nr, cr, pv, nv, cv, rfl, ⟨k1, k2, k3, k4⟩, k6, k8, hb⟩
theorem e12Build (po : Option Addr) (no co : Nat) (pt : Option Addr) (nt ct : Nat) (pr : Option Addr) (nr cr : Nat) (pv : Option Addr) (nv cv : Nat) (w : World) (h : R4 w po no pt nt pr nr pv nv e12O e12T e12R e12V) (hct : nt ≤ ct) (hcv : nv ≤ cv) :
    Calls Tryz.prog 26 #[.agg #[.slice po no co, .slice pt nt ct, .slice pr nr cr, .slice pv nv cv]] w fun e w' => ∃ qO cO qI cI HO HI, e = .returned (.tuple #[.agg #[.slice qO 3 cO, .slice qI 3 cI], .int .i64 0]) ∧ RdT w' qO 3 HO e12A ∧ RdT w' qI 3 HI e12B ∧ Ext w w' := by
  have := BuildRd po no co e12O pt nt ct e12T pr nr cr e12R pv nv cv e12V 3 w h.o h.t h.r h.v hct hcv e12Ck rfl
  rw [e12A_eq, e12B_eq] at this
  exact this
theorem rdt3 {w : World} {p : Option Addr} (x y z : Hd) (T : SrT) (h0 : Rd w 1 p 3 [x.v, y.v, z.v]) (hl : T.length = 3) (h1 : Rd w 2 x.p x.n (encE (nth T 0))) (h2 : Rd w 2 y.p y.n (encE (nth T 1))) (h3 : Rd w 2 z.p z.n (encE (nth T 2))) : RdT w p 3 [x, y, z] T := ⟨h0, hl, fun j hj => by
  have : j = 0 ∨ j = 1 ∨ j = 2 := by omega
  rcases this with rfl | rfl | rfl
  · exact h1
  · exact h2
  · exact h3⟩
set_option maxRecDepth 100000 in
set_option maxHeartbeats 4000000 in
theorem Labels12 (w : World) : Calls Tryz.prog 28 #[] w fun e w' => e = .returned (.bool true) ∧ Ext w w' := by
  obtain ⟨i0, hi0, hz0, hz1, hz2⟩ := info_parts inf35
  have SE : Hid (Sep w (w.alloc (.cells #[.int .i64 0, .int .i64 1, .int .i64 1, .int .i64 2] 74)) [.own 74 2 (some ⟨w.heap.size, 0, none⟩) 2 2 (encE e12E)]) := by
    have h := (Sep.start w).alrow #[.int .i64 0, .int .i64 1, .int .i64 1, .int .i64 2] 74 2 2 w.heap.size rfl (by decide) rfl
    rw [e12Cells] at h
    exact h
  have HQ : Hid ((w.alloc (.cells #[.int .i64 0, .int .i64 1, .int .i64 1, .int .i64 2] 74)).heap.size = w.heap.size + 1) := by unfold Hid; simp
  go_enter Tryz.func28, Tryz.ntmps28
  go_wp2_with (first
    | (at_make; go_must (refine wpList_make_sep rfl _ _ _ rfl 129 i0 _ 1 Tryz.underlying76 hi0 hz0 hz1 (3:Int) 3 rfl rfl rfl (by rw [hz2]; omega) (by unfold maxLen; omega) SE.out ?_; intro w0 S'; rw [made3l, HQ.out] at S'; have S0 := Lib.hid S'; clear S'))
    | (go_at_call 26; have _t := S1; go_must (refine (e12Build po no co pt nt ct pr nr cr pv nv cv _ (HR.out.ext S1.out.ext) hct hcv).mono ?_; rintro e w2 ⟨qO, cO, qI, cI, HO, HI, rfl, ra, rb, hb⟩; have RA := Lib.hid ra; have RB := Lib.hid rb; have S2 := Lib.hid (S1.out.call hb); clear ra rb hb))
    | (go_at_call 46; go_must (refine (e12Mk _ _ _ (S0.out.rd 1 rfl (by decide)) (S0.out.rd 0 rfl (by decide))).mono ?_; rintro e w1 ⟨po, no, co, pt, nt, ct, pr, nr, cr, pv, nv, cv, rfl, hr, hct, hcv, hb⟩; have E1 := Lib.hid (Ext.trans S0.out.ext hb); have HR := Lib.hid hr; have S1 := Lib.hid ((Sep.start w1).al #[.slice po no co, .slice pt nt ct, .slice pr nr cr, .slice pv nv cv] 24 w1.heap.size rfl); clear hb hr)))
  have S3 := Lib.hid ((((((((((S2.out.al #[.slice qO 3 cO, .slice qI 3 cI] 42 (w2.heap.size) rfl).alrow #[.int .i64 1, .int .i64 1, .int .i64 0, .int .i64 0] 54 2 2 (w2.heap.size + 1) (by simp) (by decide) rfl).alrow #[.int .i64 1, .int .i64 0] 54 2 1 (w2.heap.size + 1 + 1) (by simp) (by decide) rfl).alrow #[.int .i64 2, .int .i64 0] 54 2 1 (w2.heap.size + 1 + 1 + 1) (by simp) (by decide) rfl).alrow #[.slice (some ⟨w2.heap.size + 1, 0, none⟩) 2 2, .slice (some ⟨w2.heap.size + 1 + 1, 0, none⟩) 1 1, .slice (some ⟨w2.heap.size + 1 + 1 + 1, 0, none⟩) 1 1] 52 1 3 (w2.heap.size + 1 + 1 + 1 + 1) (by simp) (by decide) rfl).alrow #[.int .i64 0, .int .i64 0] 54 2 1 (w2.heap.size + 1 + 1 + 1 + 1 + 1) (by simp) (by decide) rfl).alrow #[.int .i64 1, .int .i64 0] 54 2 1 (w2.heap.size + 1 + 1 + 1 + 1 + 1 + 1) (by simp) (by decide) rfl).alrow #[.int .i64 1, .int .i64 1, .int .i64 2, .int .i64 0] 54 2 2 (w2.heap.size + 1 + 1 + 1 + 1 + 1 + 1 + 1) (by simp) (by decide) rfl).alrow #[.slice (some ⟨w2.heap.size + 1 + 1 + 1 + 1 + 1, 0, none⟩) 1 1, .slice (some ⟨w2.heap.size + 1 + 1 + 1 + 1 + 1 + 1, 0, none⟩) 1 1, .slice (some ⟨w2.heap.size + 1 + 1 + 1 + 1 + 1 + 1 + 1, 0, none⟩) 2 2] 52 1 3 (w2.heap.size + 1 + 1 + 1 + 1 + 1 + 1 + 1 + 1) (by simp) (by decide) rfl).al #[.slice (some ⟨w2.heap.size + 1 + 1 + 1 + 1, 0, none⟩) 3 3, .slice (some ⟨w2.heap.size + 1 + 1 + 1 + 1 + 1 + 1 + 1 + 1, 0, none⟩) 3 3] 42 (w2.heap.size + 1 + 1 + 1 + 1 + 1 + 1 + 1 + 1 + 1) (by simp))
  have WA := Lib.hid (rdt3 ⟨some ⟨w2.heap.size + 1, 0, none⟩, 2, 2⟩ ⟨some ⟨w2.heap.size + 1 + 1, 0, none⟩, 1, 1⟩ ⟨some ⟨w2.heap.size + 1 + 1 + 1, 0, none⟩, 1, 1⟩ e12A (S3.out.rdx 5 rfl) rfl (S3.out.rdx 8 rfl) (S3.out.rdx 7 rfl) (S3.out.rdx 6 rfl))
  have WB := Lib.hid (rdt3 ⟨some ⟨w2.heap.size + 1 + 1 + 1 + 1 + 1, 0, none⟩, 1, 1⟩ ⟨some ⟨w2.heap.size + 1 + 1 + 1 + 1 + 1 + 1, 0, none⟩, 1, 1⟩ ⟨some ⟨w2.heap.size + 1 + 1 + 1 + 1 + 1 + 1 + 1, 0, none⟩, 2, 2⟩ e12B (S3.out.rdx 1 rfl) rfl (S3.out.rdx 4 rfl) (S3.out.rdx 3 rfl) (S3.out.rdx 2 rfl))
  have EX := Lib.hid (show Ext w2 _ from (((((((((((Sep.start w2).al #[.slice qO 3 cO, .slice qI 3 cI] 42 (w2.heap.size) rfl).alrow #[.int .i64 1, .int .i64 1, .int .i64 0, .int .i64 0] 54 2 2 (w2.heap.size + 1) (by simp) (by decide) rfl).alrow #[.int .i64 1, .int .i64 0] 54 2 1 (w2.heap.size + 1 + 1) (by simp) (by decide) rfl).alrow #[.int .i64 2, .int .i64 0] 54 2 1 (w2.heap.size + 1 + 1 + 1) (by simp) (by decide) rfl).alrow #[.slice (some ⟨w2.heap.size + 1, 0, none⟩) 2 2, .slice (some ⟨w2.heap.size + 1 + 1, 0, none⟩) 1 1, .slice (some ⟨w2.heap.size + 1 + 1 + 1, 0, none⟩) 1 1] 52 1 3 (w2.heap.size + 1 + 1 + 1 + 1) (by simp) (by decide) rfl).alrow #[.int .i64 0, .int .i64 0] 54 2 1 (w2.heap.size + 1 + 1 + 1 + 1 + 1) (by simp) (by decide) rfl).alrow #[.int .i64 1, .int .i64 0] 54 2 1 (w2.heap.size + 1 + 1 + 1 + 1 + 1 + 1) (by simp) (by decide) rfl).alrow #[.int .i64 1, .int .i64 1, .int .i64 2, .int .i64 0] 54 2 2 (w2.heap.size + 1 + 1 + 1 + 1 + 1 + 1 + 1) (by simp) (by decide) rfl).alrow #[.slice (some ⟨w2.heap.size + 1 + 1 + 1 + 1 + 1, 0, none⟩) 1 1, .slice (some ⟨w2.heap.size + 1 + 1 + 1 + 1 + 1 + 1, 0, none⟩) 1 1, .slice (some ⟨w2.heap.size + 1 + 1 + 1 + 1 + 1 + 1 + 1, 0, none⟩) 2 2] 52 1 3 (w2.heap.size + 1 + 1 + 1 + 1 + 1 + 1 + 1 + 1) (by simp) (by decide) rfl).al #[.slice (some ⟨w2.heap.size + 1 + 1 + 1 + 1, 0, none⟩) 3 3, .slice (some ⟨w2.heap.size + 1 + 1 + 1 + 1 + 1 + 1 + 1 + 1, 0, none⟩) 3 3] 42 (w2.heap.size + 1 + 1 + 1 + 1 + 1 + 1 + 1 + 1 + 1) (by simp)).ext)
  have x0 := (S3.out.blk 9 rfl).cell 0
  have x1 := (S3.out.blk 9 rfl).cell 1
  have xz := (S3.out.blk 9 rfl).lt
  have y0 := (S3.out.blk 0 rfl).cell 0
  have y1 := (S3.out.blk 0 rfl).cell 1
  have yz := (S3.out.blk 0 rfl).lt
  go_wp2_with (first
    | (go_at_call 36; have _t := S8; go_must (refine (e12SizeG _ _ _ _ _ _ _ (WA.out.ext Z8.out) (WB.out.ext Z8.out)).mono ?_; rintro e w9 ⟨rfl, hb⟩; have S9 := Lib.hid (S8.out.call hb); clear hb))
    | (go_at_call 34; have _t := S7; go_must (refine (e12ChkG _ _ _ _ _ _ _ (WA.out.ext Z7.out) (WB.out.ext Z7.out)).mono ?_; rintro e w8 ⟨rfl, hb⟩; have S8 := Lib.hid (S7.out.call hb); have Z8 := Lib.hid (Ext.trans Z7.out hb); have a80 := (S8.out.blk 9 rfl).cell 0; have a81 := (S8.out.blk 9 rfl).cell 1; have a8z := (S8.out.blk 9 rfl).lt; have b80 := (S8.out.blk 0 rfl).cell 0; have b81 := (S8.out.blk 0 rfl).cell 1; have b8z := (S8.out.blk 0 rfl).lt; clear hb))
    | (go_at_call 29; have _t := S6; go_must (refine (LSameY _ 3 _ _ e12A _ 3 _ _ e12B _ 3 _ _ _ 3 _ _ _ (RA.out.ext (Ext.trans EX.out Z6.out)) (RB.out.ext (Ext.trans EX.out Z6.out)) (WA.out.ext Z6.out) (WB.out.ext Z6.out)).mono ?_; rintro e w7 ⟨rfl, hb⟩; have S7 := Lib.hid (S6.out.call hb); have Z7 := Lib.hid (Ext.trans Z6.out hb); have a70 := (S7.out.blk 9 rfl).cell 0; have a71 := (S7.out.blk 9 rfl).cell 1; have a7z := (S7.out.blk 9 rfl).lt; have b70 := (S7.out.blk 0 rfl).cell 0; have b71 := (S7.out.blk 0 rfl).cell 1; have b7z := (S7.out.blk 0 rfl).lt; clear hb))
    | (go_at_call 32; have _t := S5; go_must (refine (e12Qu3 _ _ _ _ _ _ _ (WA.out.ext Z5.out) (WB.out.ext Z5.out)).mono ?_; rintro e w6 ⟨rfl, hb⟩; have S6 := Lib.hid (S5.out.call hb); have Z6 := Lib.hid (Ext.trans Z5.out hb); have a60 := (S6.out.blk 9 rfl).cell 0; have a61 := (S6.out.blk 9 rfl).cell 1; have a6z := (S6.out.blk 9 rfl).lt; have b60 := (S6.out.blk 0 rfl).cell 0; have b61 := (S6.out.blk 0 rfl).cell 1; have b6z := (S6.out.blk 0 rfl).lt; clear hb))
    | (go_at_call 32; have _t := S4; go_must (refine (e12Qu2 _ _ _ _ _ _ _ (WA.out.ext Z4.out) (WB.out.ext Z4.out)).mono ?_; rintro e w5 ⟨rfl, hb⟩; have S5 := Lib.hid (S4.out.call hb); have Z5 := Lib.hid (Ext.trans Z4.out hb); have a50 := (S5.out.blk 9 rfl).cell 0; have a51 := (S5.out.blk 9 rfl).cell 1; have a5z := (S5.out.blk 9 rfl).lt; have b50 := (S5.out.blk 0 rfl).cell 0; have b51 := (S5.out.blk 0 rfl).cell 1; have b5z := (S5.out.blk 0 rfl).lt; clear hb))
    | (go_at_call 32; go_must (refine (e12Qu1 _ _ _ _ _ _ _ WA.out WB.out).mono ?_; rintro e w4 ⟨rfl, hb⟩; have S4 := Lib.hid (S3.out.call hb); have Z4 := Lib.hid hb; have a40 := (S4.out.blk 9 rfl).cell 0; have a41 := (S4.out.blk 9 rfl).cell 1; have a4z := (S4.out.blk 9 rfl).lt; have b40 := (S4.out.blk 0 rfl).cell 0; have b41 := (S4.out.blk 0 rfl).cell 1; have b4z := (S4.out.blk 0 rfl).lt; clear hb)))
  go_ret
  exact ⟨rfl, Ext.trans E1.out S9.out.ext⟩
end Go.Proofs.YthlmcfbadhidbaaGreat
/- The program's searches (chapter 8): a side takes the next level's places. -/
namespace Go.Proofs.YthlmcfbadhidbaaGreat
open Go Go.RowKit
theorem set_ne {α : Type} {Γ : List α} {i j : Nat} {p q : α} (h : Γ[i]? = some p) (hne : i ≠ j) : (Γ.set j q)[i]? = some p := by
  rw [List.getElem?_set_ne (fun e => hne e.symm)]; exact h
theorem set_eq {α : Type} {Γ : List α} {j : Nat} {p q : α} (h : Γ[j]? = some p) : (Γ.set j q)[j]? = some q := List.getElem?_set_self (List.getElem?_eq_some_iff.1 h).1
set_option maxRecDepth 100000 in
set_option maxHeartbeats 4000000 in
theorem takeG {w0 w : World} {Γ : List Pc} (i j : Nat) (gs fid gr n : Nat) (ql : Option Addr) (cl : Nat) (X : List Int) (qf : Option Addr) (mf cf : Nat) (F : List Int) (qm : Option Addr) (m cm : Nat) (L : List Int) (S : Sep w0 w Γ)
    (hij : i ≠ j) (hi : Γ[i]? = some (.blk gs 146 #[.func (.func fid) #[] #[.pointer (some ⟨gr, 0, none⟩)], .slice ql n cl, .slice qf mf cf])) (hj : Γ[j]? = some (.own 3 1 ql n cl (encI X))) (hf : ∀ W Y, Sep w0 W (Γ.set j (.own 3 1 ql n cl Y)) → Rd W 1 qf mf (encI F)) (hp : ∀ W Y, Sep w0 W (Γ.set j (.own 3 1 ql n cl Y)) → Rd W 1 qm m (encI L))
    (hn : n ≤ 200) (hmf : 0 < mf) (hmf2 : mf ≤ 200) (hm : m ≤ 200) (hF : 0 ≤ nth F 0 ∧ nth F 0 < n) (hL : ∀ x ∈ L, 0 ≤ x ∧ x < n) (hne : nth F 0 ∉ L) (c : Int) (hc : nth X (nth F 0).toNat = c) (hc0 : 0 ≤ c ∧ c ≤ 1000) :
    Calls Tryz.prog 82 #[.pointer (some ⟨gs, 0, none⟩), .slice qm m cm] w fun e w' => (∃ v, e = .returned v) ∧ Sep w0 w' ((Γ.set j (.own 3 1 ql n cl (encI (tkR (c + 1) L X)))).set i (.blk gs 146 #[.func (.func fid) #[] #[.pointer (some ⟨gr, 0, none⟩)], .slice ql n cl, .slice qm m cm])) := by
  have LX : X.length = n := by have := (S.rd j hj (by omega)).nI; omega
  have e0 : Γ.set j (.own 3 1 ql n cl (encI X)) = Γ := by
    apply List.ext_getElem?
    intro t
    by_cases e : j = t
    · subst e; rw [set_eq hj, hj]
    · rw [List.getElem?_set_ne e]
  have LL : L.length = m := by have := (hp w (encI X) (by rw [e0]; exact S)).nI; omega
  have LX' := Lib.hid LX
  have LL' := Lib.hid LL
  have HL := Lib.hid hL
  obtain ⟨a, ha⟩ : ∃ a : Nat, nth F 0 = (a : Int) := ⟨(nth F 0).toNat, by omega⟩
  have HA : Hid (∀ k, nth (tkR (c + 1) (L.take k) X) a = c) := fun k => by
    rw [tkR_nth (fun x hx => by have := hL x (List.mem_of_mem_take hx); rw [LX]; omega), if_neg (fun h => hne (by rw [ha]; exact List.mem_of_mem_take h))]
    rw [ha, Int.toNat_natCast] at hc; exact hc
  have HAF := Lib.hid ha
  rw [ha] at hF
  clear hL hne hc LX LL ha
  go_enter Tryz.func82, Tryz.ntmps82
  go_wp2
  go_loopw [5, 8] (fun _ i wr => ∃ k : Nat, k ≤ m ∧ i = .int .i64 k ∧ Sep w0 wr (Γ.set j (.own 3 1 ql n cl (encI (tkR (c + 1) (L.take k) X))))) (fun _ i _ => m - (intOf i).toNat)
  case atStart => exact ⟨0, Nat.zero_le _, rfl, by show Sep w0 w (Γ.set j (.own 3 1 ql n cl (encI X))); rw [e0]; exact S⟩
  case round =>
    obtain ⟨k, hk, rfl, S1⟩ := hrel
    have az := (S1.blk i (set_ne hi hij)).lt; have a0 := (S1.blk i (set_ne hi hij)).cell 0; have a1 := (S1.blk i (set_ne hi hij)).cell 1; have a2 := (S1.blk i (set_ne hi hij)).cell 2
    have po := (S1.rd j (set_eq hj) (by omega)).ptr
    have pl := (hp _ _ S1).ptr
    have pf := (hf _ _ S1).ptr
    by_cases hlt : k < m
    · have hkL : k < L.length := by rw [LL'.out]; exact hlt
      have g1 := (hp _ _ S1).cI hlt
      have g2 := (hf _ _ S1).cI hmf
      have g3 := (S1.rd j (set_eq hj) (by omega)).cI (k := a) (by omega)
      rw [HA.out] at g3
      rw [HAF.out] at g2
      obtain ⟨f1, f2⟩ := HL.out _ (nth_mem hkL)
      obtain ⟨b, hb⟩ : ∃ b : Nat, nth L k = (b : Int) := ⟨(nth L k).toNat, by omega⟩
      have HT := Lib.hid (tkR_take (c := c + 1) (X := X) hkL)
      rw [hb] at g1 f1 f2 HT
      rw [Int.toNat_natCast] at HT
      clear hb
      have d1 : (0:Int) ≤ k := by omega
      have d2 : (k:Int) < m := by omega
      have d3 : (0:Int) < mf := by omega
      have d4 : (a:Int) < n := by omega
      have d5 : (0:Int) ≤ a := by omega
      have SH := Lib.hid S1; clear S1
      go_wp2
      have x1 := fun x : ExtOf wr => x.ext.cell a1
      have x2 := fun x : ExtOf wr => x.ext.cell a2
      have x4 := fun x : ExtOf wr => x.ext.cell g2
      have x5 := fun x : ExtOf wr => x.ext.cell g3
      refine wp_region_mix [true, true, true, true, true, true, true, true, true, true, true, true, true, true, true, true, true, true, true] (fun _ _ _ => True) (by kernel_rfl) (by kernel_rfl) (by kernel_rfl) (fun _ _ _ _ _ h => h) ?_
      simp only [nfM]
      repeat (go_big_quiet_step ((fail)))
      refine wpQuiet_nil ⟨trivial, fun vs W1 hE _ => ?_⟩
      have S2 := SH.out.call hE
      have po2 := (S2.rd j (set_eq hj) (by omega)).ptr
      have fz2 := own_frozen (S2.own j (set_eq hj)) (by omega) b
      have k1 := own_cell (S2.own j (set_eq hj)) (k := b) (by omega)
      have S3 := Lib.hid (S2.setRow j (set_eq hj) b (by omega) (.int .i64 (c + 1)))
      clear S2 x1 x2 x4 x5 g1 g2 g3 a0 a1 a2 az
      simp only [putM, List.length_cons, List.length_nil, Nat.zero_add, Nat.reduceAdd, List.drop_succ_cons, List.drop_zero]
      go_wp2
      go_roundw
      case rel => exact ⟨k + 1, by omega, by go_num, by rw [HT.out, ← encI_set]; have := S3.out; rw [List.set_set] at this; exact this⟩
      case measure => simp [intOf]; omega
    · obtain rfl : k = m := by omega
      rw [List.take_of_length_le (by rw [LL'.out]; exact Nat.le_refl _)] at S1
      have fz0 := (S1.blk i (set_ne hi hij)).frozen 2
      have SH := Lib.hid S1; clear S1
      go_wp2
      go_end0
      exact ⟨⟨_, rfl⟩, SH.out.set i (set_ne hi hij) 2 (.slice qm k cm)⟩
end Go.Proofs.YthlmcfbadhidbaaGreat
/- The program's searches (chapter 8): the shortest walk over places that both sides have. -/
namespace Go.Proofs.YthlmcfbadhidbaaGreat
open Go Go.RowKit
set_option maxRecDepth 100000 in
set_option maxHeartbeats 4000000 in
theorem bestG (fa fb gr ga gb n : Nat) (qa : Option Addr) (ca : Nat) (X : List Int) (pa : Option Addr) (ma da : Nat) (qb : Option Addr) (cb : Nat) (Y : List Int) (pb : Option Addr) (mb db : Nat) (w : World)
    (hA : Blk w ga 146 #[.func (.func fa) #[] #[.pointer (some ⟨gr, 0, none⟩)], .slice qa n ca, .slice pa ma da]) (hB : Blk w gb 146 #[.func (.func fb) #[] #[.pointer (some ⟨gr, 0, none⟩)], .slice qb n cb, .slice pb mb db]) (hX : Rd w 1 qa n (encI X)) (hY : Rd w 1 qb n (encI Y)) (hn : n ≤ 200)
    (bX : ∀ v, v < n → nth X v ≤ 1000) (bY : ∀ v, v < n → nth Y v ≤ 1000) :
    Calls Tryz.prog 80 #[.agg #[.pointer (some ⟨ga, 0, none⟩), .pointer (some ⟨gb, 0, none⟩)]] w fun e w' => e = .returned (.tuple #[.int .i64 (bestR X Y n).1, .bool (bestR X Y n).2]) ∧ Ext w w' := by
  have p1 := hX.ptr
  have p2 := hY.ptr
  have S0 := Lib.hid ((Sep.start w).al #[.pointer (some ⟨ga, 0, none⟩), .pointer (some ⟨gb, 0, none⟩)] 97 w.heap.size rfl)
  have HA := Lib.hid hA; clear hA
  have HB := Lib.hid hB; clear hB
  have HX := Lib.hid hX; clear hX
  have HY := Lib.hid hY; clear hY
  have BX := Lib.hid bX; clear bX
  have BY := Lib.hid bY; clear bY
  have az := (HA.out.ext S0.out.ext).lt; have a0 := (HA.out.ext S0.out.ext).cell 0; have a1 := (HA.out.ext S0.out.ext).cell 1; have a2 := (HA.out.ext S0.out.ext).cell 2
  have c0 := (S0.out.blk 0 rfl).cell 0
  have c1 := (S0.out.blk 0 rfl).cell 1
  have cz := (S0.out.blk 0 rfl).lt
  go_enter Tryz.func80, Tryz.ntmps80
  go_wp2
  go_loopw [4, 5, 6, 7, 8, 15] (fun m o _ _ _ i wr => ∃ k : Nat, k ≤ n ∧ i = .int .i64 k ∧ m = .int .i64 (bestR X Y k).1 ∧ o = .bool (bestR X Y k).2 ∧ Sep w wr [.blk w.heap.size 97 #[.pointer (some ⟨ga, 0, none⟩), .pointer (some ⟨gb, 0, none⟩)]]) (fun _ _ _ _ _ i _ => n - (intOf i).toNat)
  case atStart => exact ⟨0, Nat.zero_le _, rfl, rfl, rfl, S0.out⟩
  case round =>
    clear S0 a0 a1 a2 az c0 c1 cz
    obtain ⟨k, hk, rfl, rfl, rfl, S⟩ := hrel
    by_cases hlt : k < n
    · have az := (HA.out.ext S.ext).lt; have a0 := (HA.out.ext S.ext).cell 0; have a1 := (HA.out.ext S.ext).cell 1; have a2 := (HA.out.ext S.ext).cell 2
      have bz := (HB.out.ext S.ext).lt; have b0 := (HB.out.ext S.ext).cell 0; have b1 := (HB.out.ext S.ext).cell 1; have b2 := (HB.out.ext S.ext).cell 2
      have c0 := (S.blk 0 rfl).cell 0
      have c1 := (S.blk 0 rfl).cell 1
      have cz := (S.blk 0 rfl).lt
      have g1 := S.ext.cell (HX.out.cI hlt)
      have g2 := S.ext.cell (HY.out.cI hlt)
      have HS := Lib.hid (bestR_succ X Y k)
      have b1 := BX.out k hlt
      have b2 := BY.out k hlt
      unfold best1 at HS
      generalize bestR X Y k = s at *
      obtain ⟨m, o⟩ := s
      simp only at HS ⊢
      generalize nth X k = x at *
      generalize nth Y k = y at *
      have d1 : (0:Int) ≤ k := by omega
      have d2 : (k:Int) < n := by omega
      have SH := Lib.hid S; clear S
      by_cases hx : 0 ≤ x
      · have e1 : decide (0 ≤ x) = true := by simpa using hx
        by_cases hy : 0 ≤ y
        · have e2 : decide (0 ≤ y) = true := by simpa using hy
          cases o with
          | false =>
            rw [if_pos ⟨hx, hy, .inl rfl⟩] at HS
            go_wp2
            go_roundw
            case rel => exact ⟨k + 1, by omega, by go_num, by rw [HS.out], by rw [HS.out], SH.out⟩
            case measure => simp [intOf]; omega
          | true =>
            by_cases hm : x + y < m
            · have e3 : decide (x + y < m) = true := by simpa using hm
              rw [if_pos ⟨hx, hy, .inr hm⟩] at HS
              go_wp2
              go_roundw
              case rel => exact ⟨k + 1, by omega, by go_num, by rw [HS.out], by rw [HS.out], SH.out⟩
              case measure => simp [intOf]; omega
            · have e3 : decide (x + y < m) = false := by simpa using hm
              rw [if_neg (by rintro ⟨_, _, h | h⟩; cases h; exact hm h)] at HS
              go_wp2
              go_roundw
              case rel => exact ⟨k + 1, by omega, by go_num, by rw [HS.out], by rw [HS.out], SH.out⟩
              case measure => simp [intOf]; omega
        · have e2 : decide (0 ≤ y) = false := by simpa using hy
          rw [if_neg (fun h => hy h.2.1)] at HS
          go_wp2
          go_roundw
          case rel => exact ⟨k + 1, by omega, by go_num, by rw [HS.out], by rw [HS.out], SH.out⟩
          case measure => simp [intOf]; omega
      · have e1 : decide (0 ≤ x) = false := by simpa using hx
        rw [if_neg (fun h => hx h.1)] at HS
        go_wp2
        go_roundw
        case rel => exact ⟨k + 1, by omega, by go_num, by rw [HS.out], by rw [HS.out], SH.out⟩
        case measure => simp [intOf]; omega
    · obtain rfl : k = n := by omega
      have SH := Lib.hid S; clear S
      go_wp2
      go_ret2
      exact ⟨rfl, SH.out.ext⟩
end Go.Proofs.YthlmcfbadhidbaaGreat
/- The program's searches (chapter 8): both sides go on till they meet, or one can't. -/
namespace Go.Proofs.YthlmcfbadhidbaaGreat
open Go Go.RowKit
theorem Sep.freshMany {w0 w w' : World} {Γ : List Pc} {e : TypeId} {size : Nat} {rows : List (Hd × List Value)} (S : Sep w0 w Γ) (h : Ext w w') (ho : ∀ r ∈ rows, w'.ownsRow w.heap.size e size (.slice r.1.p r.1.n r.1.c) r.1.n r.2) : Sep w0 w' (.many e size rows :: Γ) :=
  S.comp (Δ := [.many e size rows]) ⟨h, fun p hp => by rw [List.mem_singleton] at hp; subst hp; exact fun r hr => own_base (ho r hr) (Nat.zero_le _), fun p hp k hk => by
    rw [List.mem_singleton] at hp; subst hp
    obtain ⟨r, hr, hk⟩ := hk
    exact (own_lt (ho r hr) hk).1, List.pairwise_singleton _ _⟩
theorem Sep.rdMany {w0 w : World} {Γ : List Pc} (S : Sep w0 w Γ) (j : Nat) {e : TypeId} {size : Nat} {rows : List (Hd × List Value)} (hj : Γ[j]? = some (.many e size rows)) {r : Hd × List Value} (hr : r ∈ rows) (hs : r.1.n ≤ 9223372036854775807) : Rd w size r.1.p r.1.n r.2 := Rd.of_own (S.manyAt j hj r hr) hs
section
variable {nx nb : Nat → List Int} {n s t : Nat} (h : Rev nx nb n) (hs : s < n) (ht : t < n)
include h hs ht in
theorem go_has {k : Nat} (h0 : 0 ≤ lev nx n s t) (hm : meetB n (lev nx n s) (lev nb n t) k = false) : hasL n (lev nx n s) ((k:Int) + 1) = true ∧ hasL n (lev nb n t) ((k:Int) + 1) = true ∧ 2 * (k:Int) < lev nx n s t := by
  have h2 : 2 * (k:Int) < lev nx n s t := by
    have := mt (meet_lev h hs ht (k := k)).2 (by rw [hm]; simp); omega
  refine ⟨?_, ?_, h2⟩
  · obtain ⟨v, hv, g1, _⟩ := lev_mid h hs ht (j := k + 1) h0 (by omega)
    exact hasL_iff.2 ⟨v, hv, by omega⟩
  · obtain ⟨v, hv, _, g1⟩ := lev_mid h hs ht (j := (lev nx n s t).toNat - (k + 1)) h0 (by omega)
    exact hasL_iff.2 ⟨v, hv, by omega⟩
end
def RunQ (b : Nat) (x y : List Int) (i : Nat) (v : Value) (W : World) : Prop :=
  match i with
  | 2 => ∃ q c, v = .slice q x.length c ∧ W.ownsRow b 3 1 (.slice q x.length c) x.length (encI x)
  | 5 => ∃ q c, v = .slice q y.length c ∧ W.ownsRow b 3 1 (.slice q y.length c) y.length (encI y)
  | _ => True
theorem RunQ_mono {b : Nat} {x y : List Int} : ∀ i v W W', Ext W W' → RunQ b x y i v W → RunQ b x y i v W' := by
  intro i v W W' he h
  unfold RunQ at *
  split at h <;> first | trivial | (obtain ⟨q, c, h1, h2⟩ := h; exact ⟨q, c, h1, he.own h2⟩)
set_option maxRecDepth 100000 in
set_option maxHeartbeats 8000000 in
theorem runG (po : Option Addr) (no co : Nat) (O : List Int) (pt : Option Addr) (nt ct : Nat) (T : List Int) (pr : Option Addr) (nr cr : Nat) (R : List Int) (pv : Option Addr) (nv cv : Nat) (V : List Int) (gr ga gb n s t : Nat) (qa qb qfa0 qfb0 : Option Addr) (w0 w : World) (hO : Rd w0 1 po no (encI O)) (hT : Rd w0 1 pt nt (encI T)) (hR : Rd w0 1 pr nr (encI R)) (hV : Rd w0 1 pv nv (encI V)) (hct : nt ≤ ct) (hcv : nv ≤ cv) (hck : checkR O T R V = true) (hno : O.length = n + 1) (hs : s < n) (ht : t < n)
    (S : Sep w0 w [.blk gb 146 #[.func (.func 78) #[] #[.pointer (some ⟨gr, 0, none⟩)], .slice qb n n, .slice qfb0 1 1], .own 3 1 qfb0 1 1 (encI [(t : Int)]), .own 3 1 qb n n (encI (bf0 n t)), .blk ga 146 #[.func (.func 77) #[] #[.pointer (some ⟨gr, 0, none⟩)], .slice qa n n, .slice qfa0 1 1], .own 3 1 qfa0 1 1 (encI [(s : Int)]), .own 3 1 qa n n (encI (bf0 n s)), .blk gr 24 #[.slice po no co, .slice pt nt ct, .slice pr nr cr, .slice pv nv cv]]) :
    Calls Tryz.prog 62 #[.agg #[.pointer (some ⟨ga, 0, none⟩), .pointer (some ⟨gb, 0, none⟩)]] w fun e w' => e = .returned (.tuple #[.int .i64 (stepsN n (lev (rowL O T) n s) (lev (rowL R V) n t)), .int .i64 (distN (lev (rowL O T) n s t)), .bool (distB (lev (rowL O T) n s t))]) ∧ Ext w0 w' := by
  obtain ⟨e1, e2, e3, e4⟩ := checkR_half hck
  have r3 := offB_parts (halfB_off e3)
  have hn : n ≤ 200 := by omega
  have HREV : Hid (Rev (rowL O T) (rowL R V) n) := by have := nxR_rev hck false; rw [hno] at this; exact this
  have HIA : Hid (InN (rowL O T) n) := by have := row_in e3; rw [hno] at this; exact this
  have HIB : Hid (InN (rowL R V) n) := by have := row_in e4; rw [← e1, hno] at this; exact this
  have HNA := Lib.hid (fun W (h : Ext w0 W) (hB : Blk W gr 24 #[.slice po no co, .slice pt nt ct, .slice pr nr cr, .slice pv nv cv]) k (hk : k < n) => open1Gr po no co O pt nt ct T pr nr cr R pv nv cv V gr k W (hO.ext h) (hT.ext h) (offOk_of (halfB_off e3)) hct (by omega) hB)
  have HNB := Lib.hid (fun W (h : Ext w0 W) (hB : Blk W gr 24 #[.slice po no co, .slice pt nt ct, .slice pr nr cr, .slice pv nv cv]) k (hk : k < n) => open2Gr po no co O pt nt ct T pr nr cr R pv nv cv V gr k W (hR.ext h) (hV.ext h) (offOk_of (halfB_off e4)) hcv (by omega) hB)
  have S0 := Lib.hid ((((((S.many0 3 1).pick [5, 0, 1, 2, 3, 4, 6, 7] (by decide) rfl).gather).pick [2, 0, 1, 3, 4, 5, 6] (by decide) rfl).gather.al #[.pointer (some ⟨ga, 0, none⟩), .pointer (some ⟨gb, 0, none⟩)] 97 w.heap.size rfl).pick [1, 2, 3, 4, 5, 6, 0] (by decide) rfl)
  clear S hO hT hR hV hct hcv hck e1 e2 e3 e4 r3 hno
  have HSA := cut_0 (nx := rowL O T) hs
  have HSB := cut_0 (nx := rowL R V) ht
  generalize rowL O T = na at *
  generalize rowL R V = nb at *
  go_enter Tryz.func62, Tryz.ntmps62
  go_wp2
  go_step3
  go_wp2
  go_step3
  go_wp2
  go_loopw [2, 3, 4, 5, 6] (fun i _ _ _ _ wr => ∃ (k : Nat) (Fa Fb : List Int) (qfa qfb : Option Addr) (cfa cfb : Nat), k < n ∧ i = .int .i64 k ∧ IsFront (lev na n s) n k Fa ∧ IsFront (lev nb n t) n k Fb ∧ 0 < Fa.length ∧ 0 < Fb.length ∧ (0 ≤ lev na n s t → 2 * (k:Int) ≤ lev na n s t + 1) ∧ stepsK n (lev na n s) (lev nb n t) (n + 1 - k) k = stepsN n (lev na n s) (lev nb n t) ∧ Sep w0 wr [.many 3 1 [(⟨qfa, Fa.length, cfa⟩, encI Fa), (⟨qfb, Fb.length, cfb⟩, encI Fb)], .blk gb 146 #[.func (.func 78) #[] #[.pointer (some ⟨gr, 0, none⟩)], .slice qb n n, .slice qfb Fb.length cfb], .own 3 1 qb n n (encI (cutL (lev nb n t) n k)), .blk ga 146 #[.func (.func 77) #[] #[.pointer (some ⟨gr, 0, none⟩)], .slice qa n n, .slice qfa Fa.length cfa], .own 3 1 qa n n (encI (cutL (lev na n s) n k)), .blk gr 24 #[.slice po no co, .slice pt nt ct, .slice pr nr cr, .slice pv nv cv], .blk w.heap.size 97 #[.pointer (some ⟨ga, 0, none⟩), .pointer (some ⟨gb, 0, none⟩)]]) (fun i _ _ _ _ _ => n - (intOf i).toNat)
  case atStart => exact ⟨0, [(s:Int)], [(t:Int)], qfa0, qfb0, 1, 1, by omega, rfl, front_0 hs, front_0 ht, by simp, by simp, fun h => by omega, rfl, by rw [show ((0 : Nat) : Int) = 0 from rfl, HSA, HSB]; exact S0.out⟩
  case round =>
    clear S0
    obtain ⟨k, Fa, Fb, qfa, qfb, cfa, cfb, hkn, rfl, hFa, hFb, la, lb, hD, hst, S⟩ := hrel
    have RFA := S.rdMany 0 rfl (r := (⟨qfa, Fa.length, cfa⟩, encI Fa)) (by simp) (by have := nodup_small (n := n) hFa.1 (fun x hx => by have := (hFa.2 x).1 hx; omega); simp only; omega)
    have RFB := S.rdMany 0 rfl (r := (⟨qfb, Fb.length, cfb⟩, encI Fb)) (by simp) (by have := nodup_small (n := n) hFb.1 (fun x hx => by have := (hFb.2 x).1 hx; omega); simp only; omega)
    have lfa := nodup_small (n := n) hFa.1 (fun x hx => by have := (hFa.2 x).1 hx; omega)
    have lfb := nodup_small (n := n) hFb.1 (fun x hx => by have := (hFb.2 x).1 hx; omega)
    have HBest := Lib.hid (bestG 77 78 gr ga gb n qa n (cutL (lev na n s) n k) qfa Fa.length cfa qb n (cutL (lev nb n t) n k) qfb Fb.length cfb wr (S.blk 3 rfl) (S.blk 1 rfl) (S.rd 4 rfl (by omega)) (S.rd 2 rfl (by omega)) hn
      (fun v hv => by rw [cutL_nth hv]; unfold cut; split <;> omega) (fun v hv => by rw [cutL_nth hv]; unfold cut; split <;> omega))
    obtain ⟨BY, BN⟩ := best_lev HREV.out hs ht hD
    have pz := (S.blk 6 rfl).lt
    have p0 := (S.blk 6 rfl).cell 0
    have p1 := (S.blk 6 rfl).cell 1
    cases hm : meetB n (lev na n s) (lev nb n t) k with
    | true =>
      rw [BY hm] at HBest
      have hd := (meet_lev HREV.out hs ht).1 hm
      have hdn : Hid (distN (lev na n s t) = lev na n s t ∧ distB (lev na n s t) = true) := by
        unfold Hid distN distB; rw [if_pos hd.1]; exact ⟨rfl, by simpa using hd.1⟩
      have hst2 : Hid (stepsN n (lev na n s) (lev nb n t) = k) := by
        unfold Hid
        rw [← hst, show n + 1 - k = (n - k) + 1 by omega]; exact stepsK_meet hm
      obtain ⟨D, hDe⟩ : ∃ D, D = lev na n s t := ⟨_, rfl⟩
      rw [← hDe] at HBest
      have hDe' := Lib.hid hDe
      have SH := Lib.hid S; clear S
      clear BY BN hD hst hm hd hFa hFb la lb RFA RFB lfa lfb HNA HNB HREV HIA HIB HSA HSB hDe
      go_wp2_with (go_at_call 80; go_must (refine HBest.out.mono ?_; rintro e w1 ⟨rfl, hb⟩; have S1 := Lib.hid (SH.out.call hb); clear hb))
      rw [Exit.noGoto_ret]
      go_ret3
      exact ⟨by rw [hst2.out, hdn.out.1, hdn.out.2, ← hDe'.out]; rfl, S1.out.ext⟩
    | false =>
      rw [BN hm] at HBest
      have HX := Lib.hid (front_next hs HIA.out hFa (X := cutL (lev na n s) n k) (fun v hv => by rw [cutL_nth hv]; exact cut_lt))
      have HY := Lib.hid (front_next ht HIB.out hFb (X := cutL (lev nb n t) n k) (fun v hv => by rw [cutL_nth hv]; exact cut_lt))
      have hm' := Lib.hid hm
      have hst' := Lib.hid hst
      have hD' := Lib.hid hD
      have BA := Lib.hid (fun x hx => ⟨((hFa.2 x).1 hx).1, ((hFa.2 x).1 hx).2.1⟩ : ∀ x ∈ Fa, 0 ≤ x ∧ x < n)
      have BB := Lib.hid (fun x hx => ⟨((hFb.2 x).1 hx).1, ((hFb.2 x).1 hx).2.1⟩ : ∀ x ∈ Fb, 0 ≤ x ∧ x < n)
      have FAH := Lib.hid hFa
      have FBH := Lib.hid hFb
      have SH := Lib.hid S; clear S
      clear BY BN hD hst hm hFa hFb RFA RFB HSA HSB
      go_wp2_with (go_at_call 80; go_must (refine HBest.out.mono ?_; rintro e w1 ⟨rfl, hb⟩; have S1 := Lib.hid (SH.out.call hb); clear hb))
      have HA1 := Lib.hid (fun W (h : Ext w1 W) => ahead1 ga gr n qa n (cutL (lev na n s) n k) qfa Fa.length cfa Fa na W ((S1.out.blk 3 rfl).ext h) ((S1.out.rd 4 rfl (by omega)).ext h) ((S1.out.rdMany 0 rfl (r := (⟨qfa, Fa.length, cfa⟩, encI Fa)) (by simp) (by simp only; omega)).ext h) hn BA.out HIA.out (HNA.out W (Ext.trans S1.out.ext h) ((S1.out.blk 5 rfl).ext h)))
      have HA2 := Lib.hid (fun W (h : Ext w1 W) => ahead2 gb gr n qb n (cutL (lev nb n t) n k) qfb Fb.length cfb Fb nb W ((S1.out.blk 1 rfl).ext h) ((S1.out.rd 2 rfl (by omega)).ext h) ((S1.out.rdMany 0 rfl (r := (⟨qfb, Fb.length, cfb⟩, encI Fb)) (by simp) (by simp only; omega)).ext h) hn BB.out HIB.out (HNB.out W (Ext.trans S1.out.ext h) ((S1.out.blk 5 rfl).ext h)))
      generalize ahF na (cutL (lev na n s) n k) Fa [] = x at *
      generalize ahF nb (cutL (lev nb n t) n k) Fb [] = y at *
      have lx := nodup_small (n := n) HX.out.1 (fun v hv => by have := (HX.out.2 v).1 hv; omega)
      have ly := nodup_small (n := n) HY.out.1 (fun v hv => by have := (HY.out.2 v).1 hv; omega)
      have q0 := (S1.out.blk 6 rfl).cell 0
      have q1 := (S1.out.blk 6 rfl).cell 1
      clear HBest SH
      have y0 := fun x : ExtOf w1 => x.ext.cell q0
      have y1 := fun x : ExtOf w1 => x.ext.cell q1
      refine wp_region_mix [true, true, false, true, true, false] (RunQ w1.heap.size x y) (by kernel_rfl) (by kernel_rfl) (by kernel_rfl) RunQ_mono ?_
      simp only [nfM]
      repeat (go_big_quiet_step ((fail)))
      refine wpQuiet_nil ⟨⟨fun vs W1 hE hd => ?_, fun vs W1 hE hd => ?_, trivial⟩, fun vs W1 hE hkn => ?_⟩
      · simp [putM, go_sem]
        exact (HA1.out _ hE).mono fun e w' ⟨q, c, h1, S⟩ => ⟨_, h1, ⟨q, c, rfl, own_base (S.own 0 rfl) hE.size⟩, S.ext⟩
      · simp [putM, go_sem]
        exact (HA2.out _ hE).mono fun e w' ⟨q, c, h1, S⟩ => ⟨_, h1, ⟨q, c, rfl, own_base (S.own 0 rfl) hE.size⟩, S.ext⟩
      obtain ⟨⟨qx, cx, k1, ox⟩, ⟨qy, cy, k2, oy⟩, _⟩ := hkn
      have S2 := Lib.hid (S1.out.freshMany hE (rows := [(⟨qx, x.length, cx⟩, encI x), (⟨qy, y.length, cy⟩, encI y)]) (fun r hr => by
        simp only [List.mem_cons, List.not_mem_nil, or_false] at hr
        rcases hr with rfl | rfl
        · exact ox
        · exact oy))
      simp only [putM, k1, k2, List.length_cons, List.length_nil, Nat.zero_add, Nat.reduceAdd, List.drop_succ_cons, List.drop_zero]
      clear y0 y1 k1 k2 ox oy hE q0 q1 HA1 HA2 S1
      have r0 := (S2.out.blk 7 rfl).cell 0
      have r1 := (S2.out.blk 7 rfl).cell 1
      have rz := (S2.out.blk 7 rfl).lt
      have HEND : Hid (x.length = 0 ∨ y.length = 0 → stepsN n (lev na n s) (lev nb n t) = k ∧ distN (lev na n s t) = 0 ∧ distB (lev na n s t) = false) := fun h0 => by
        have hno : ¬ (hasL n (lev na n s) ((k:Int) + 1) = true ∧ hasL n (lev nb n t) ((k:Int) + 1) = true) := by
          rintro ⟨g1, g2⟩
          have g1 := (front_has HX.out).1 g1
          have g2 := (front_has HY.out).1 g2
          omega
        have hneg : lev na n s t < 0 := by
          apply Classical.byContradiction
          intro hge
          have := go_has HREV.out hs ht (by omega) hm'.out
          exact hno ⟨this.1, this.2.1⟩
        refine ⟨?_, ?_, ?_⟩
        · have h1 := hst'.out
          rw [show n + 1 - k = (n - k) + 1 by omega, stepsK_end hm'.out hno] at h1
          exact h1.symm
        · unfold distN; rw [if_neg (by omega)]
        · unfold distB; simp; omega
      by_cases hx0 : x.length = 0
      · have c1 : ((x.length : Int) == 0) = true := by simp [hx0]
        have HE := Lib.hid (HEND.out (.inl hx0))
        go_wp2
        rw [Exit.noGoto_ret]
        go_ret3
        exact ⟨by rw [HE.out.1, HE.out.2.1, HE.out.2.2]; rfl, S2.out.ext⟩
      · have c1 : ((x.length : Int) == 0) = false := by rw [beq_eq_false_iff_ne]; omega
        by_cases hy0 : y.length = 0
        · have c2 : ((y.length : Int) == 0) = true := by simp [hy0]
          have HE := Lib.hid (HEND.out (.inr hy0))
          go_wp2
          rw [Exit.noGoto_ret]
          go_ret3
          exact ⟨by rw [HE.out.1, HE.out.2.1, HE.out.2.2]; rfl, S2.out.ext⟩
        · have c2 : ((y.length : Int) == 0) = false := by rw [beq_eq_false_iff_ne]; omega
          clear HEND
          have hfa0 := (FAH.out.2 _).1 (nth_mem (l := Fa) (k := 0) la)
          have hfb0 := (FBH.out.2 _).1 (nth_mem (l := Fb) (k := 0) lb)
          have HTA := Lib.hid (take_cut HX.out)
          have HTB := Lib.hid (take_cut HY.out)
          have T1 := Lib.hid (takeG 4 5 ga 77 gr n qa n (cutL (lev na n s) n k) qfa Fa.length cfa Fa qx x.length cx x S2.out (by decide) rfl rfl
            (fun W Y S => S.rdMany 1 rfl (r := (⟨qfa, Fa.length, cfa⟩, encI Fa)) (by simp) (by simp only; omega))
            (fun W Y S => S.rdMany 0 rfl (r := (⟨qx, x.length, cx⟩, encI x)) (by simp) (by simp only; omega))
            hn la (by omega) (by omega) ⟨hfa0.1, hfa0.2.1⟩ (fun v hv => ⟨((HX.out.2 v).1 hv).1, ((HX.out.2 v).1 hv).2.1⟩) (fun h => by have := ((HX.out.2 _).1 h).2.2; omega)
            (k:Int) (by rw [cutL_nth (by omega)]; unfold cut; rw [if_pos (by omega)]; exact hfa0.2.2) (by omega))
          rw [HTA.out] at T1
          have T2 := Lib.hid (fun (w2 : World) (S : Sep w0 w2 [.many 3 1 [(⟨qx, x.length, cx⟩, encI x), (⟨qy, y.length, cy⟩, encI y)], .many 3 1 [(⟨qfa, Fa.length, cfa⟩, encI Fa), (⟨qfb, Fb.length, cfb⟩, encI Fb)], .blk gb 146 #[.func (.func 78) #[] #[.pointer (some ⟨gr, 0, none⟩)], .slice qb n n, .slice qfb Fb.length cfb], .own 3 1 qb n n (encI (cutL (lev nb n t) n k)), .blk ga 146 #[.func (.func 77) #[] #[.pointer (some ⟨gr, 0, none⟩)], .slice qa n n, .slice qx x.length cx], .own 3 1 qa n n (encI (cutL (lev na n s) n (k + 1 : Nat))), .blk gr 24 #[.slice po no co, .slice pt nt ct, .slice pr nr cr, .slice pv nv cv], .blk w.heap.size 97 #[.pointer (some ⟨ga, 0, none⟩), .pointer (some ⟨gb, 0, none⟩)]]) =>
            takeG 2 3 gb 78 gr n qb n (cutL (lev nb n t) n k) qfb Fb.length cfb Fb qy y.length cy y S (by decide) rfl rfl
            (fun W Y S => S.rdMany 1 rfl (r := (⟨qfb, Fb.length, cfb⟩, encI Fb)) (by simp) (by simp only; omega))
            (fun W Y S => S.rdMany 0 rfl (r := (⟨qy, y.length, cy⟩, encI y)) (by simp) (by simp only; omega))
            hn lb (by omega) (by omega) ⟨hfb0.1, hfb0.2.1⟩ (fun v hv => ⟨((HY.out.2 v).1 hv).1, ((HY.out.2 v).1 hv).2.1⟩) (fun h => by have := ((HY.out.2 _).1 h).2.2; omega)
            (k:Int) (by rw [cutL_nth (by omega)]; unfold cut; rw [if_pos (by omega)]; exact hfb0.2.2) (by omega))
          rw [HTB.out] at T2
          clear HTA HTB hfa0 hfb0
          have hk1 : k + 1 < n := has_lt hs ((front_has HX.out).2 (by omega))
          have HDD : Hid (0 ≤ lev na n s t → 2 * ((k + 1 : Nat) : Int) ≤ lev na n s t + 1) := fun h0 => by
            have := (go_has HREV.out hs ht h0 hm'.out).2.2; omega
          have HSS : Hid (stepsK n (lev na n s) (lev nb n t) (n + 1 - (k + 1)) (k + 1) = stepsN n (lev na n s) (lev nb n t)) := by
            unfold Hid
            rw [← hst'.out, show n + 1 - k = (n - k) + 1 by omega, show n + 1 - (k + 1) = n - k by omega]
            exact (stepsK_go hm'.out ⟨(front_has HX.out).2 (by omega), (front_has HY.out).2 (by omega)⟩).symm
          go_wp2_with (first
            | (go_at_call 82; have _t := S3; go_must (refine (T2.out _ S3.out).mono ?_; rintro e w3 ⟨⟨v2, rfl⟩, Z⟩; have S4 := Lib.hid ((Z.pick [0, 2, 3, 4, 5, 6, 7] (by decide) rfl) : Sep w0 w3 [.many 3 1 [(⟨qx, x.length, cx⟩, encI x), (⟨qy, y.length, cy⟩, encI y)], .blk gb 146 #[.func (.func 78) #[] #[.pointer (some ⟨gr, 0, none⟩)], .slice qb n n, .slice qy y.length cy], .own 3 1 qb n n (encI (cutL (lev nb n t) n (k + 1 : Nat))), .blk ga 146 #[.func (.func 77) #[] #[.pointer (some ⟨gr, 0, none⟩)], .slice qa n n, .slice qx x.length cx], .own 3 1 qa n n (encI (cutL (lev na n s) n (k + 1 : Nat))), .blk gr 24 #[.slice po no co, .slice pt nt ct, .slice pr nr cr, .slice pv nv cv], .blk w.heap.size 97 #[.pointer (some ⟨ga, 0, none⟩), .pointer (some ⟨gb, 0, none⟩)]]); clear Z))
            | (go_at_call 82; go_must (refine T1.out.mono ?_; rintro e w2 ⟨⟨v1, rfl⟩, Z⟩; have S3 := Lib.hid (Z : Sep w0 w2 [.many 3 1 [(⟨qx, x.length, cx⟩, encI x), (⟨qy, y.length, cy⟩, encI y)], .many 3 1 [(⟨qfa, Fa.length, cfa⟩, encI Fa), (⟨qfb, Fb.length, cfb⟩, encI Fb)], .blk gb 146 #[.func (.func 78) #[] #[.pointer (some ⟨gr, 0, none⟩)], .slice qb n n, .slice qfb Fb.length cfb], .own 3 1 qb n n (encI (cutL (lev nb n t) n k)), .blk ga 146 #[.func (.func 77) #[] #[.pointer (some ⟨gr, 0, none⟩)], .slice qa n n, .slice qx x.length cx], .own 3 1 qa n n (encI (cutL (lev na n s) n (k + 1 : Nat))), .blk gr 24 #[.slice po no co, .slice pt nt ct, .slice pr nr cr, .slice pv nv cv], .blk w.heap.size 97 #[.pointer (some ⟨ga, 0, none⟩), .pointer (some ⟨gb, 0, none⟩)]]); have q0 := (S3.out.blk 7 rfl).cell 0; have q1 := (S3.out.blk 7 rfl).cell 1; have qz := (S3.out.blk 7 rfl).lt; clear Z)))
          go_roundw
          case rel => exact ⟨k + 1, x, y, qx, qy, cx, cy, hk1, by go_num, HX.out, HY.out, by omega, by omega, HDD.out, HSS.out, S4.out⟩
          case measure => simp [intOf]; omega
end Go.Proofs.YthlmcfbadhidbaaGreat
/- The program's searches (chapter 8): open, Dist, Steps. -/
namespace Go.Proofs.YthlmcfbadhidbaaGreat
open Go Go.RowKit
/-- the error of two places -/
def pairC (ck : Bool) (O : List Int) (s t : Int) : Int := if ck = true then (if (0 ≤ s ∧ s < (O.length : Int) - 1) ∧ 0 ≤ t ∧ t < (O.length : Int) - 1 then 0 else 1) else 40
set_option maxRecDepth 100000 in
set_option maxHeartbeats 4000000 in
theorem openG_no (po : Option Addr) (no co : Nat) (O : List Int) (pt : Option Addr) (nt ct : Nat) (T : List Int) (pr : Option Addr) (nr cr : Nat) (R : List Int) (pv : Option Addr) (nv cv : Nat) (V : List Int) (s t : Int) (w : World) (hO : Rd w 1 po no (encI O)) (hT : Rd w 1 pt nt (encI T)) (hR : Rd w 1 pr nr (encI R)) (hV : Rd w 1 pv nv (encI V)) (hct : nt ≤ ct) (hcv : nv ≤ cv) (hc : pairC (checkR O T R V) O s t ≠ 0) :
    Calls Tryz.prog 61 #[.agg #[.slice po no co, .slice pt nt ct, .slice pr nr cr, .slice pv nv cv], .int .i64 s, .int .i64 t] w fun e w' => e = .returned (.tuple #[.agg #[.pointer none, .pointer none], .int .i64 (pairC (checkR O T R V) O s t)]) ∧ Ext w w' := by
  have S0 := Lib.hid (((Sep.start w).al #[.slice po no co, .slice pt nt ct, .slice pr nr cr, .slice pv nv cv] 24 w.heap.size rfl).al #[.pointer none, .pointer none] 97 (w.heap.size + 1) (by simp))
  have HC := Lib.hid (fun W1 (h : Ext w W1) => CheckR po no co O pt nt ct T pr nr cr R pv nv cv V W1 (hO.ext h) (hT.ext h) (hR.ext h) (hV.ext h) hct hcv)
  have l1 := hO.nI
  have n1 := hO.small
  clear hO hT hR hV
  unfold pairC at *
  cases hck : checkR O T R V with
  | false =>
    rw [hck] at HC
    clear hck hc l1
    rw [if_neg (by simp)]
    go_enter Tryz.func61, Tryz.ntmps61
    go_wp2_with (go_at_call 40; go_must (refine (HC.out _ S0.out.ext).mono ?_; rintro e w1 ⟨rfl, hb⟩; have S1 := Lib.hid (S0.out.call hb); have pz := (S1.out.blk 0 rfl).lt; have p0 := (S1.out.blk 0 rfl).cell 0; have p1 := (S1.out.blk 0 rfl).cell 1; have pf := (S1.out.blk 0 rfl).frozen 0; have pg := (S1.out.blk 0 rfl).frozen 1; clear hb))
    have S7 := ((S1.out.set 0 rfl 0 (.pointer none)).set 0 rfl 1 (.pointer none))
    have b0 := (S7.blk 0 rfl).cell 0
    have b1 := (S7.blk 0 rfl).cell 1
    refine bodyPost_ret (v := .tuple #[.agg #[.pointer none, .pointer none], .int .i64 40]) (by simp [results, Tryz.results61, go_sem, b0, b1, Tryz.sizeOf97, Tryz.isAgg97]) rfl ⟨rfl, S7.ext⟩
  | true =>
    rw [hck, if_pos rfl] at hc
    rw [hck] at HC
    rw [if_pos rfl]
    have hno : ¬ ((0 ≤ s ∧ s < (O.length : Int) - 1) ∧ 0 ≤ t ∧ t < (O.length : Int) - 1) := fun h => by rw [if_pos h] at hc; exact hc rfl
    rw [if_neg hno]
    clear hck hc
    by_cases h1 : s < 0
    · have d1 : decide (s < 0) = true := by simpa using h1
      clear hno l1
      go_enter Tryz.func61, Tryz.ntmps61
      go_wp2_with (go_at_call 40; go_must (refine (HC.out _ S0.out.ext).mono ?_; rintro e w1 ⟨rfl, hb⟩; have S1 := Lib.hid (S0.out.call hb); have pz := (S1.out.blk 0 rfl).lt; have p0 := (S1.out.blk 0 rfl).cell 0; have p1 := (S1.out.blk 0 rfl).cell 1; have pf := (S1.out.blk 0 rfl).frozen 0; have pg := (S1.out.blk 0 rfl).frozen 1; clear hb))
      have S7 := ((S1.out.set 0 rfl 0 (.pointer none)).set 0 rfl 1 (.pointer none))
      have b0 := (S7.blk 0 rfl).cell 0
      have b1 := (S7.blk 0 rfl).cell 1
      refine bodyPost_ret (v := .tuple #[.agg #[.pointer none, .pointer none], .int .i64 1]) (by simp [results, Tryz.results61, go_sem, b0, b1, Tryz.sizeOf97, Tryz.isAgg97]) rfl ⟨rfl, S7.ext⟩
    · have d1 : decide (s < 0) = false := by simpa using h1
      by_cases h2 : (no:Int) - 1 ≤ s
      · have d2 : decide ((no:Int) - 1 ≤ s) = true := by simpa using h2
        clear hno l1
        go_enter Tryz.func61, Tryz.ntmps61
        go_wp2_with (go_at_call 40; go_must (refine (HC.out _ S0.out.ext).mono ?_; rintro e w1 ⟨rfl, hb⟩; have S1 := Lib.hid (S0.out.call hb); have pz := (S1.out.blk 0 rfl).lt; have p0 := (S1.out.blk 0 rfl).cell 0; have p1 := (S1.out.blk 0 rfl).cell 1; have pf := (S1.out.blk 0 rfl).frozen 0; have pg := (S1.out.blk 0 rfl).frozen 1; clear hb))
        have S7 := ((S1.out.set 0 rfl 0 (.pointer none)).set 0 rfl 1 (.pointer none))
        have b0 := (S7.blk 0 rfl).cell 0
        have b1 := (S7.blk 0 rfl).cell 1
        refine bodyPost_ret (v := .tuple #[.agg #[.pointer none, .pointer none], .int .i64 1]) (by simp [results, Tryz.results61, go_sem, b0, b1, Tryz.sizeOf97, Tryz.isAgg97]) rfl ⟨rfl, S7.ext⟩
      · have d2 : decide ((no:Int) - 1 ≤ s) = false := by simpa using h2
        by_cases h3 : t < 0
        · have d3 : decide (t < 0) = true := by simpa using h3
          clear hno l1
          go_enter Tryz.func61, Tryz.ntmps61
          go_wp2_with (go_at_call 40; go_must (refine (HC.out _ S0.out.ext).mono ?_; rintro e w1 ⟨rfl, hb⟩; have S1 := Lib.hid (S0.out.call hb); have pz := (S1.out.blk 0 rfl).lt; have p0 := (S1.out.blk 0 rfl).cell 0; have p1 := (S1.out.blk 0 rfl).cell 1; have pf := (S1.out.blk 0 rfl).frozen 0; have pg := (S1.out.blk 0 rfl).frozen 1; clear hb))
          have S7 := ((S1.out.set 0 rfl 0 (.pointer none)).set 0 rfl 1 (.pointer none))
          have b0 := (S7.blk 0 rfl).cell 0
          have b1 := (S7.blk 0 rfl).cell 1
          refine bodyPost_ret (v := .tuple #[.agg #[.pointer none, .pointer none], .int .i64 1]) (by simp [results, Tryz.results61, go_sem, b0, b1, Tryz.sizeOf97, Tryz.isAgg97]) rfl ⟨rfl, S7.ext⟩
        · have d3 : decide (t < 0) = false := by simpa using h3
          have h4 : (no:Int) - 1 ≤ t := by
            apply Classical.byContradiction
            intro h4
            exact hno (by omega)
          have d4 : decide ((no:Int) - 1 ≤ t) = true := by simpa using h4
          clear hno l1
          go_enter Tryz.func61, Tryz.ntmps61
          go_wp2_with (go_at_call 40; go_must (refine (HC.out _ S0.out.ext).mono ?_; rintro e w1 ⟨rfl, hb⟩; have S1 := Lib.hid (S0.out.call hb); have pz := (S1.out.blk 0 rfl).lt; have p0 := (S1.out.blk 0 rfl).cell 0; have p1 := (S1.out.blk 0 rfl).cell 1; have pf := (S1.out.blk 0 rfl).frozen 0; have pg := (S1.out.blk 0 rfl).frozen 1; clear hb))
          have S7 := ((S1.out.set 0 rfl 0 (.pointer none)).set 0 rfl 1 (.pointer none))
          have b0 := (S7.blk 0 rfl).cell 0
          have b1 := (S7.blk 0 rfl).cell 1
          refine bodyPost_ret (v := .tuple #[.agg #[.pointer none, .pointer none], .int .i64 1]) (by simp [results, Tryz.results61, go_sem, b0, b1, Tryz.sizeOf97, Tryz.isAgg97]) rfl ⟨rfl, S7.ext⟩
set_option maxRecDepth 100000 in
set_option maxHeartbeats 4000000 in
theorem openG_yes (po : Option Addr) (no co : Nat) (O : List Int) (pt : Option Addr) (nt ct : Nat) (T : List Int) (pr : Option Addr) (nr cr : Nat) (R : List Int) (pv : Option Addr) (nv cv : Nat) (V : List Int) (n s t : Nat) (w : World) (hO : Rd w 1 po no (encI O)) (hT : Rd w 1 pt nt (encI T)) (hR : Rd w 1 pr nr (encI R)) (hV : Rd w 1 pv nv (encI V)) (hct : nt ≤ ct) (hcv : nv ≤ cv) (hck : checkR O T R V = true) (hno : O.length = n + 1) (hs : s < n) (ht : t < n) :
    Calls Tryz.prog 61 #[.agg #[.slice po no co, .slice pt nt ct, .slice pr nr cr, .slice pv nv cv], .int .i64 s, .int .i64 t] w fun e w' => ∃ gr ga gb qa qb qfa0 qfb0, e = .returned (.tuple #[.agg #[.pointer (some ⟨ga, 0, none⟩), .pointer (some ⟨gb, 0, none⟩)], .int .i64 0]) ∧
      Sep w w' [.blk gb 146 #[.func (.func 78) #[] #[.pointer (some ⟨gr, 0, none⟩)], .slice qb n n, .slice qfb0 1 1], .own 3 1 qfb0 1 1 (encI [(t : Int)]), .own 3 1 qb n n (encI (bf0 n t)), .blk ga 146 #[.func (.func 77) #[] #[.pointer (some ⟨gr, 0, none⟩)], .slice qa n n, .slice qfa0 1 1], .own 3 1 qfa0 1 1 (encI [(s : Int)]), .own 3 1 qa n n (encI (bf0 n s)), .blk gr 24 #[.slice po no co, .slice pt nt ct, .slice pr nr cr, .slice pv nv cv]] := by
  have S0 := Lib.hid (((Sep.start w).al #[.slice po no co, .slice pt nt ct, .slice pr nr cr, .slice pv nv cv] 24 w.heap.size rfl).al #[.pointer none, .pointer none] 97 (w.heap.size + 1) (by simp))
  have HC := Lib.hid (fun W1 (h : Ext w W1) => CheckR po no co O pt nt ct T pr nr cr R pv nv cv V W1 (hO.ext h) (hT.ext h) (hR.ext h) (hV.ext h) hct hcv)
  have l1 := hO.nI
  have r := offB_parts (halfB_off (checkR_half hck).2.2.1)
  have hn : n ≤ 200 := by omega
  rw [hck] at HC
  have hno2 : (no:Int) = (n:Int) + 1 := by omega
  obtain rfl : no = n + 1 := by omega
  have d1 : decide ((s:Int) < 0) = false := by simp
  have d2 : decide ((n:Int) ≤ s) = false := by simp; omega
  have d3 : decide ((t:Int) < 0) = false := by simp
  have d4 : decide ((n:Int) ≤ t) = false := by simp; omega
  have d5 : decide (n ≤ s) = false := by simp; omega
  have d6 : decide (n ≤ t) = false := by simp; omega
  have HB1 := Lib.hid (fun W => beginG 77 w.heap.size n s W hs hn)
  have HB2 := Lib.hid (fun W => beginG 78 w.heap.size n t W ht hn)
  clear hO hT hR hV hck l1 r hno hno2
  go_enter Tryz.func61, Tryz.ntmps61
  go_wp2_with (first
    | (go_at_call 79; have _t := S2; go_must (refine (HB2.out _).mono ?_; rintro e w3 ⟨gb, qb, qfb0, rfl, Z⟩; have S3 := Lib.hid (S2.out.comp Z); have qz := (S3.out.blk 6 rfl).lt; have q0 := (S3.out.blk 6 rfl).cell 0; have q1 := (S3.out.blk 6 rfl).cell 1; have qf := (S3.out.blk 6 rfl).frozen 0; have qg := (S3.out.blk 6 rfl).frozen 1; clear Z))
    | (go_at_call 79; have _t := S1; go_must (refine (HB1.out _).mono ?_; rintro e w2 ⟨ga, qa, qfa0, rfl, Z⟩; have S2 := Lib.hid (S1.out.comp Z); clear Z))
    | (go_at_call 40; go_must (refine (HC.out _ S0.out.ext).mono ?_; rintro e w1 ⟨rfl, hb⟩; have S1 := Lib.hid (S0.out.call hb); clear hb)))
  have S7 := ((S3.out.set 6 rfl 0 (.pointer (some ⟨ga, 0, none⟩))).set 6 rfl 1 (.pointer (some ⟨gb, 0, none⟩)))
  have b0 := (S7.blk 6 rfl).cell 0
  have b1 := (S7.blk 6 rfl).cell 1
  refine bodyPost_ret (v := .tuple #[.agg #[.pointer (some ⟨ga, 0, none⟩), .pointer (some ⟨gb, 0, none⟩)], .int .i64 0]) (by simp [results, Tryz.results61, go_sem, b0, b1, Tryz.sizeOf97, Tryz.isAgg97]) rfl ⟨w.heap.size, ga, gb, qa, qb, qfa0, qfb0, rfl, ?_⟩
  exact S7.pick [0, 1, 2, 3, 4, 5, 7] (by decide) rfl
end Go.Proofs.YthlmcfbadhidbaaGreat
/- The program's searches (chapter 8): Dist, Steps. -/
namespace Go.Proofs.YthlmcfbadhidbaaGreat
open Go Go.RowKit
set_option maxRecDepth 100000 in
set_option maxHeartbeats 4000000 in
theorem DistG_no (po : Option Addr) (no co : Nat) (O : List Int) (pt : Option Addr) (nt ct : Nat) (T : List Int) (pr : Option Addr) (nr cr : Nat) (R : List Int) (pv : Option Addr) (nv cv : Nat) (V : List Int) (s t : Int) (w : World) (hO : Rd w 1 po no (encI O)) (hT : Rd w 1 pt nt (encI T)) (hR : Rd w 1 pr nr (encI R)) (hV : Rd w 1 pv nv (encI V)) (hct : nt ≤ ct) (hcv : nv ≤ cv) (hc : pairC (checkR O T R V) O s t ≠ 0) :
    Calls Tryz.prog 39 #[.agg #[.slice po no co, .slice pt nt ct, .slice pr nr cr, .slice pv nv cv], .int .i64 s, .int .i64 t] w fun e w' => e = .returned (.tuple #[.int .i64 0, .bool false, .int .i64 (pairC (checkR O T R V) O s t)]) ∧ Ext w w' := by
  have HO := Lib.hid (fun W1 (h : Ext w W1) => openG_no po no co O pt nt ct T pr nr cr R pv nv cv V s t W1 (hO.ext h) (hT.ext h) (hR.ext h) (hV.ext h) hct hcv hc)
  have S0 := Lib.hid ((Sep.start w).al #[.slice po no co, .slice pt nt ct, .slice pr nr cr, .slice pv nv cv] 24 w.heap.size rfl)
  generalize pairC (checkR O T R V) O s t = c at *
  have hc0 : (c != 0) = true := by simpa using hc
  clear hO hT hR hV hc
  go_enter Tryz.func39, Tryz.ntmps39
  go_wp2_with (go_at_call 61; go_must (refine (HO.out _ S0.out.ext).mono ?_; rintro e w1 ⟨rfl, hb⟩; have S1 := Lib.hid (S0.out.call hb); clear hb))
  go_ret3
  exact ⟨rfl, (S1.out.al #[.pointer none, .pointer none] 97 w1.heap.size rfl).ext⟩
set_option maxRecDepth 100000 in
set_option maxHeartbeats 4000000 in
theorem DistG_yes (po : Option Addr) (no co : Nat) (O : List Int) (pt : Option Addr) (nt ct : Nat) (T : List Int) (pr : Option Addr) (nr cr : Nat) (R : List Int) (pv : Option Addr) (nv cv : Nat) (V : List Int) (n s t : Nat) (w : World) (hO : Rd w 1 po no (encI O)) (hT : Rd w 1 pt nt (encI T)) (hR : Rd w 1 pr nr (encI R)) (hV : Rd w 1 pv nv (encI V)) (hct : nt ≤ ct) (hcv : nv ≤ cv) (hck : checkR O T R V = true) (hno : O.length = n + 1) (hs : s < n) (ht : t < n) :
    Calls Tryz.prog 39 #[.agg #[.slice po no co, .slice pt nt ct, .slice pr nr cr, .slice pv nv cv], .int .i64 s, .int .i64 t] w fun e w' => e = .returned (.tuple #[.int .i64 (distN (lev (rowL O T) n s t)), .bool (distB (lev (rowL O T) n s t)), .int .i64 0]) ∧ Ext w w' := by
  have HO := Lib.hid (fun W1 (h : Ext w W1) => openG_yes po no co O pt nt ct T pr nr cr R pv nv cv V n s t W1 (hO.ext h) (hT.ext h) (hR.ext h) (hV.ext h) hct hcv hck hno hs ht)
  have S0 := Lib.hid ((Sep.start w).al #[.slice po no co, .slice pt nt ct, .slice pr nr cr, .slice pv nv cv] 24 w.heap.size rfl)
  have HRUN := Lib.hid (fun gr ga gb qa qb qfa0 qfb0 W1 S => runG po no co O pt nt ct T pr nr cr R pv nv cv V gr ga gb n s t qa qb qfa0 qfb0 w W1 hO hT hR hV hct hcv hck hno hs ht S)
  clear hO hT hR hV hck hno
  go_enter Tryz.func39, Tryz.ntmps39
  go_wp2_with (first
    | (go_at_call 62; go_must (refine (HRUN.out gr ga gb qa qb qfa0 qfb0 _ ((S1.out.al #[.pointer (some ⟨ga, 0, none⟩), .pointer (some ⟨gb, 0, none⟩)] 97 w1.heap.size rfl).pick [1, 2, 3, 4, 5, 6, 7] (by decide) rfl)).mono ?_; rintro e w2 ⟨rfl, hb⟩; have HB := Lib.hid hb; clear hb))
    | (go_at_call 61; go_must (refine (HO.out _ S0.out.ext).mono ?_; rintro e w1 ⟨gr, ga, gb, qa, qb, qfa0, qfb0, rfl, Z⟩; have S1 := Lib.hid (S0.out.comp Z); clear Z)))
  go_ret3
  exact ⟨rfl, HB.out⟩
end Go.Proofs.YthlmcfbadhidbaaGreat
/- Chapter 12: labels as they are built are right, and tell what Dist tells. -/
namespace Go.Proofs.YthlmcfbadhidbaaGreat
open Go Go.RowKit
theorem right_lab {nx : Nat → List Int} {n : Nat} {L : List Int} (hL : OrdP L n) (hn : n ≤ 200) {v : Nat} (hv : v < n) : rightB (labI nx n L n v) n = true := by
  unfold rightB
  rw [Bool.and_eq_true, List.all_eq_true, decide_eq_true_eq]
  refine ⟨fun x hx => ?_, ?_⟩
  · obtain ⟨i, hi, h1, rfl⟩ := labI_mem.1 hx
    have h2 := (hubW_iff.1 h1).1
    have h3 := lev_lt (nx := nx) (ord_lt hL hi) hv
    have h4 := ord_lt hL hi
    have h5 := ord_int hL hi
    unfold okH
    rw [decide_eq_true_eq]
    simp only
    omega
  · unfold labI
    rw [List.map_map]
    have h0 : ((List.range n).filter fun i => hubW nx n L i (nth L i).toNat v).Nodup := List.nodup_range.filter _
    unfold List.Nodup at h0 ⊢
    refine List.pairwise_map.2 (h0.imp_of_mem fun {x y} hx hy hne e => hne ?_)
    rw [List.mem_filter, List.mem_range] at hx hy
    exact ord_inj hL hx.1 hy.1 e
section
variable {O T R V : List Int} {n : Nat}
theorem lab_check (hck : checkR O T R V = true) (hno : O.length = n + 1) : lchkB (labT (rowL R V) n (byL O R n) n) (labT (rowL O T) n (byL O R n) n) = true := by
  have hL := byL_ord (O := O) (R := R) (n := n) fun v hv => way_rng hck hno hv
  have r := offB_parts (halfB_off (checkR_half hck).2.2.1)
  have e := labT_len
  refine lchk_yes ⟨by rw [labT_len]; omega, by rw [labT_len]; omega, by rw [labT_len, labT_len]⟩ fun v hv => ?_
  rw [labT_len] at hv ⊢
  rw [labT_nth hv, labT_nth hv, right_lab hL (by omega) hv, right_lab hL (by omega) hv]; rfl
theorem lab_query (hck : checkR O T R V = true) (hno : O.length = n + 1) {a b : Nat} (ha : a < n) (hb : b < n) :
    queryN (labT (rowL R V) n (byL O R n) n) (labT (rowL O T) n (byL O R n) n) a b = distN (lev (rowL O T) n a b) ∧ queryO (labT (rowL R V) n (byL O R n) n) (labT (rowL O T) n (byL O R n) n) a b = distB (lev (rowL O T) n a b) ∧ queryC (labT (rowL R V) n (byL O R n) n) (labT (rowL O T) n (byL O R n) n) a b = 0 := by
  have hL := byL_ord (O := O) (R := R) (n := n) fun v hv => way_rng hck hno hv
  have hrev : Rev (rowL O T) (rowL R V) n := by have := nxR_rev hck false; rw [hno] at this; exact this
  have hq : queryB (labT (rowL R V) n (byL O R n) n) (labT (rowL O T) n (byL O R n) n) a b = true := by
    unfold queryB
    rw [lab_check hck hno, labT_len]
    simp; omega
  have ht := label_tells hrev hL ha hb
  unfold queryN queryO queryC
  rw [if_pos hq, if_pos hq, if_pos hq, Int.toNat_natCast, Int.toNat_natCast, labT_nth ha, labT_nth hb, ht]
  unfold distN distB
  by_cases h0 : 0 ≤ lev (rowL O T) n a b
  · rw [if_pos h0, if_pos h0]; exact ⟨rfl, by simpa using h0, rfl⟩
  · rw [if_neg h0, if_neg h0]; exact ⟨rfl, by simp; omega, rfl⟩
end
end Go.Proofs.YthlmcfbadhidbaaGreat
/- The law LabelDist: labels tell what Dist tells. -/
namespace Go.Proofs.YthlmcfbadhidbaaGreat
open Go Go.RowKit
set_option maxRecDepth 100000 in
set_option maxHeartbeats 8000000 in
theorem lawDist12 (po : Option Addr) (no co : Nat) (O : List Int) (pt : Option Addr) (nt ct : Nat) (T : List Int) (pr : Option Addr) (nr cr : Nat) (R : List Int) (pv : Option Addr) (nv cv : Nat) (V : List Int) (w : World) (hO : Rd w 1 po no (encI O)) (hT : Rd w 1 pt nt (encI T)) (hR : Rd w 1 pr nr (encI R)) (hV : Rd w 1 pv nv (encI V)) (hct : nt ≤ ct) (hcv : nv ≤ cv) : Calls Tryz.prog 8 #[.agg #[.slice po no co, .slice pt nt ct, .slice pr nr cr, .slice pv nv cv]] w fun e w' => e = .returned (.bool true) ∧ Ext w w' := by
  have HBig := Lib.hid (fun W1 (h : Ext w W1) => Big04 po no co O pt nt ct T pr nr cr R pv nv cv V W1 (hO.ext h) (hT.ext h) (hR.ext h) (hV.ext h))
  have S0 := Lib.hid ((Sep.start w).al #[.slice po no co, .slice pt nt ct, .slice pr nr cr, .slice pv nv cv] 24 w.heap.size rfl)
  have lO := hO.nI
  have pz := hO.small
  cases hck : checkR O T R V with
  | false =>
    have HBu := Lib.hid (fun W1 (h : Ext w W1) => BuildG_no po no co O pt nt ct T pr nr cr R pv nv cv V W1 (hO.ext h) (hT.ext h) (hR.ext h) (hV.ext h) hct hcv hck)
    clear hO hT hR hV hct hcv lO
    cases hbig : bigR O T R V with
    | true =>
      rw [hbig] at HBig
      clear hbig
      go_enter Tryz.func8, Tryz.ntmps8
      go_wp2_with (first | (go_at_call 28; have _t := S2; go_must (refine (Labels12 _).mono ?_; rintro e w3 ⟨rfl, hb⟩; have S3 := Lib.hid (S2.out.call hb); clear hb)) | (go_at_call 10; have _t := S1; go_must (refine (HBig.out _ S1.out.ext).mono ?_; rintro e w2 ⟨rfl, hb⟩; have Z2 := Lib.hid hb; have S2 := Lib.hid (S1.out.call hb); have b0 := (S2.out.blk 0 rfl).cell 0; have b1 := (S2.out.blk 0 rfl).cell 1; have bz := (S2.out.blk 0 rfl).lt; have y0 := (S2.out.blk 1 rfl).cell 0; have y1 := (S2.out.blk 1 rfl).cell 1; have y2 := (S2.out.blk 1 rfl).cell 2; have y3 := (S2.out.blk 1 rfl).cell 3; have yz := (S2.out.blk 1 rfl).lt; clear hb)) | (go_at_call 26; go_must (refine (HBu.out _ S0.out.ext).mono ?_; rintro e w1 ⟨rfl, hb⟩; have S1 := Lib.hid ((S0.out.call hb).al #[.slice none 0 0, .slice none 0 0] 42 w1.heap.size rfl); have a0 := (S1.out.blk 0 rfl).cell 0; have a1 := (S1.out.blk 0 rfl).cell 1; have az := (S1.out.blk 0 rfl).lt; have x0 := (S1.out.blk 1 rfl).cell 0; have x1 := (S1.out.blk 1 rfl).cell 1; have x2 := (S1.out.blk 1 rfl).cell 2; have x3 := (S1.out.blk 1 rfl).cell 3; have xz := (S1.out.blk 1 rfl).lt; clear hb)))
      go_ret
      exact ⟨rfl, S3.out.ext⟩
    | false =>
      rw [hbig] at HBig
      clear hbig
      by_cases hn : (20:Int) < no
      · have c1 : decide ((20:Int) < no) = true := by simpa using hn
        clear hn
        go_enter Tryz.func8, Tryz.ntmps8
        go_wp2_with (first | (go_at_call 28; have _t := S2; go_must (refine (Labels12 _).mono ?_; rintro e w3 ⟨rfl, hb⟩; have S3 := Lib.hid (S2.out.call hb); clear hb)) | (go_at_call 10; have _t := S1; go_must (refine (HBig.out _ S1.out.ext).mono ?_; rintro e w2 ⟨rfl, hb⟩; have Z2 := Lib.hid hb; have S2 := Lib.hid (S1.out.call hb); have b0 := (S2.out.blk 0 rfl).cell 0; have b1 := (S2.out.blk 0 rfl).cell 1; have bz := (S2.out.blk 0 rfl).lt; have y0 := (S2.out.blk 1 rfl).cell 0; have y1 := (S2.out.blk 1 rfl).cell 1; have y2 := (S2.out.blk 1 rfl).cell 2; have y3 := (S2.out.blk 1 rfl).cell 3; have yz := (S2.out.blk 1 rfl).lt; clear hb)) | (go_at_call 26; go_must (refine (HBu.out _ S0.out.ext).mono ?_; rintro e w1 ⟨rfl, hb⟩; have S1 := Lib.hid ((S0.out.call hb).al #[.slice none 0 0, .slice none 0 0] 42 w1.heap.size rfl); have a0 := (S1.out.blk 0 rfl).cell 0; have a1 := (S1.out.blk 0 rfl).cell 1; have az := (S1.out.blk 0 rfl).lt; have x0 := (S1.out.blk 1 rfl).cell 0; have x1 := (S1.out.blk 1 rfl).cell 1; have x2 := (S1.out.blk 1 rfl).cell 2; have x3 := (S1.out.blk 1 rfl).cell 3; have xz := (S1.out.blk 1 rfl).lt; clear hb)))
        go_ret
        exact ⟨rfl, S3.out.ext⟩
      · have c1 : decide ((20:Int) < no) = false := by simpa using hn
        clear hn
        go_enter Tryz.func8, Tryz.ntmps8
        go_wp2_with (first | (go_at_call 28; have _t := S2; go_must (refine (Labels12 _).mono ?_; rintro e w3 ⟨rfl, hb⟩; have S3 := Lib.hid (S2.out.call hb); clear hb)) | (go_at_call 10; have _t := S1; go_must (refine (HBig.out _ S1.out.ext).mono ?_; rintro e w2 ⟨rfl, hb⟩; have Z2 := Lib.hid hb; have S2 := Lib.hid (S1.out.call hb); have b0 := (S2.out.blk 0 rfl).cell 0; have b1 := (S2.out.blk 0 rfl).cell 1; have bz := (S2.out.blk 0 rfl).lt; have y0 := (S2.out.blk 1 rfl).cell 0; have y1 := (S2.out.blk 1 rfl).cell 1; have y2 := (S2.out.blk 1 rfl).cell 2; have y3 := (S2.out.blk 1 rfl).cell 3; have yz := (S2.out.blk 1 rfl).lt; clear hb)) | (go_at_call 26; go_must (refine (HBu.out _ S0.out.ext).mono ?_; rintro e w1 ⟨rfl, hb⟩; have S1 := Lib.hid ((S0.out.call hb).al #[.slice none 0 0, .slice none 0 0] 42 w1.heap.size rfl); have a0 := (S1.out.blk 0 rfl).cell 0; have a1 := (S1.out.blk 0 rfl).cell 1; have az := (S1.out.blk 0 rfl).lt; have x0 := (S1.out.blk 1 rfl).cell 0; have x1 := (S1.out.blk 1 rfl).cell 1; have x2 := (S1.out.blk 1 rfl).cell 2; have x3 := (S1.out.blk 1 rfl).cell 3; have xz := (S1.out.blk 1 rfl).lt; clear hb)))
        go_ret
        exact ⟨rfl, S3.out.ext⟩
  | true =>
    have r := offB_parts (halfB_off (checkR_half hck).2.2.1)
    obtain ⟨n, hno⟩ : ∃ n, O.length = n + 1 := ⟨O.length - 1, by omega⟩
    have HBu := Lib.hid (fun W1 (h : Ext w W1) => BuildRd po no co O pt nt ct T pr nr cr R pv nv cv V n W1 (hO.ext h) (hT.ext h) (hR.ext h) (hV.ext h) hct hcv hck hno)
    have HDs := Lib.hid (fun (a b : Nat) W1 (h : Ext w W1) (ha : a < n) (hb : b < n) => DistG_yes po no co O pt nt ct T pr nr cr R pv nv cv V n a b W1 (hO.ext h) (hT.ext h) (hR.ext h) (hV.ext h) hct hcv hck hno ha hb)
    have HCk := lab_check hck hno
    have HQu := fun (a b : Nat) (ha : a < n) (hb : b < n) => lab_query hck hno ha hb
    have hn1 : 1 ≤ n ∧ n ≤ 200 ∧ no = n + 1 := by omega
    obtain ⟨g1, g2, rfl⟩ := hn1
    clear hO hT hR hV hct hcv lO r hck
    generalize labT (rowL R V) n (byL O R n) n = A at *
    generalize labT (rowL O T) n (byL O R n) n = B at *
    generalize lev (rowL O T) n = D at *
    cases hbig : bigR O T R V with
    | true =>
      rw [hbig] at HBig
      clear hbig HQu
      go_enter Tryz.func8, Tryz.ntmps8
      go_wp2_with (first | (go_at_call 28; have _t := S2; go_must (refine (Labels12 _).mono ?_; rintro e w3 ⟨rfl, hb⟩; have S3 := Lib.hid (S2.out.call hb); clear hb)) | (go_at_call 10; have _t := S1; go_must (refine (HBig.out _ S1.out.ext).mono ?_; rintro e w2 ⟨rfl, hb⟩; have Z2 := Lib.hid hb; have S2 := Lib.hid (S1.out.call hb); have b0 := (S2.out.blk 0 rfl).cell 0; have b1 := (S2.out.blk 0 rfl).cell 1; have bz := (S2.out.blk 0 rfl).lt; have y0 := (S2.out.blk 1 rfl).cell 0; have y1 := (S2.out.blk 1 rfl).cell 1; have y2 := (S2.out.blk 1 rfl).cell 2; have y3 := (S2.out.blk 1 rfl).cell 3; have yz := (S2.out.blk 1 rfl).lt; clear hb)) | (go_at_call 26; go_must (refine (HBu.out _ S0.out.ext).mono ?_; rintro e w1 ⟨qO, cO, qI, cI, HO, HI, rfl, ra, rb, hb⟩; have RA := Lib.hid (ra.ext (Ext.alloc (Below.refl _ _) (.cells #[.slice qO n cO, .slice qI n cI] 42))); have RB := Lib.hid (rb.ext (Ext.alloc (Below.refl _ _) (.cells #[.slice qO n cO, .slice qI n cI] 42))); have S1 := Lib.hid ((S0.out.call hb).al #[.slice qO n cO, .slice qI n cI] 42 w1.heap.size rfl); have a0 := (S1.out.blk 0 rfl).cell 0; have a1 := (S1.out.blk 0 rfl).cell 1; have az := (S1.out.blk 0 rfl).lt; have x0 := (S1.out.blk 1 rfl).cell 0; have x1 := (S1.out.blk 1 rfl).cell 1; have x2 := (S1.out.blk 1 rfl).cell 2; have x3 := (S1.out.blk 1 rfl).cell 3; have xz := (S1.out.blk 1 rfl).lt; clear hb ra rb)))
      go_ret
      exact ⟨rfl, S3.out.ext⟩
    | false =>
      rw [hbig] at HBig
      clear hbig
      by_cases hn : (20:Int) < (n:Int) + 1
      · have c1 : decide ((20:Int) < (n:Int) + 1) = true := by simpa using hn
        clear hn HQu
        go_enter Tryz.func8, Tryz.ntmps8
        go_wp2_with (first | (go_at_call 28; have _t := S2; go_must (refine (Labels12 _).mono ?_; rintro e w3 ⟨rfl, hb⟩; have S3 := Lib.hid (S2.out.call hb); clear hb)) | (go_at_call 10; have _t := S1; go_must (refine (HBig.out _ S1.out.ext).mono ?_; rintro e w2 ⟨rfl, hb⟩; have Z2 := Lib.hid hb; have S2 := Lib.hid (S1.out.call hb); have b0 := (S2.out.blk 0 rfl).cell 0; have b1 := (S2.out.blk 0 rfl).cell 1; have bz := (S2.out.blk 0 rfl).lt; have y0 := (S2.out.blk 1 rfl).cell 0; have y1 := (S2.out.blk 1 rfl).cell 1; have y2 := (S2.out.blk 1 rfl).cell 2; have y3 := (S2.out.blk 1 rfl).cell 3; have yz := (S2.out.blk 1 rfl).lt; clear hb)) | (go_at_call 26; go_must (refine (HBu.out _ S0.out.ext).mono ?_; rintro e w1 ⟨qO, cO, qI, cI, HO, HI, rfl, ra, rb, hb⟩; have RA := Lib.hid (ra.ext (Ext.alloc (Below.refl _ _) (.cells #[.slice qO n cO, .slice qI n cI] 42))); have RB := Lib.hid (rb.ext (Ext.alloc (Below.refl _ _) (.cells #[.slice qO n cO, .slice qI n cI] 42))); have S1 := Lib.hid ((S0.out.call hb).al #[.slice qO n cO, .slice qI n cI] 42 w1.heap.size rfl); have a0 := (S1.out.blk 0 rfl).cell 0; have a1 := (S1.out.blk 0 rfl).cell 1; have az := (S1.out.blk 0 rfl).lt; have x0 := (S1.out.blk 1 rfl).cell 0; have x1 := (S1.out.blk 1 rfl).cell 1; have x2 := (S1.out.blk 1 rfl).cell 2; have x3 := (S1.out.blk 1 rfl).cell 3; have xz := (S1.out.blk 1 rfl).lt; clear hb ra rb)))
        go_ret
        exact ⟨rfl, S3.out.ext⟩
      · have c1 : decide ((20:Int) < (n:Int) + 1) = false := by simpa using hn
        have hn19 : n ≤ 19 := by omega
        have HK := Lib.hid HCk
        have HQ := Lib.hid HQu
        clear hn HQu HCk hno
        go_enter Tryz.func8, Tryz.ntmps8
        go_wp2_with (first | (go_at_call 10; have _t := S1; go_must (refine (HBig.out _ S1.out.ext).mono ?_; rintro e w2 ⟨rfl, hb⟩; have Z2 := Lib.hid hb; have S2 := Lib.hid (S1.out.call hb); have b0 := (S2.out.blk 0 rfl).cell 0; have b1 := (S2.out.blk 0 rfl).cell 1; have bz := (S2.out.blk 0 rfl).lt; have y0 := (S2.out.blk 1 rfl).cell 0; have y1 := (S2.out.blk 1 rfl).cell 1; have y2 := (S2.out.blk 1 rfl).cell 2; have y3 := (S2.out.blk 1 rfl).cell 3; have yz := (S2.out.blk 1 rfl).lt; clear hb)) | (go_at_call 26; go_must (refine (HBu.out _ S0.out.ext).mono ?_; rintro e w1 ⟨qO, cO, qI, cI, HO, HI, rfl, ra, rb, hb⟩; have RA := Lib.hid (ra.ext (Ext.alloc (Below.refl _ _) (.cells #[.slice qO n cO, .slice qI n cI] 42))); have RB := Lib.hid (rb.ext (Ext.alloc (Below.refl _ _) (.cells #[.slice qO n cO, .slice qI n cI] 42))); have S1 := Lib.hid ((S0.out.call hb).al #[.slice qO n cO, .slice qI n cI] 42 w1.heap.size rfl); have a0 := (S1.out.blk 0 rfl).cell 0; have a1 := (S1.out.blk 0 rfl).cell 1; have az := (S1.out.blk 0 rfl).lt; have x0 := (S1.out.blk 1 rfl).cell 0; have x1 := (S1.out.blk 1 rfl).cell 1; have x2 := (S1.out.blk 1 rfl).cell 2; have x3 := (S1.out.blk 1 rfl).cell 3; have xz := (S1.out.blk 1 rfl).lt; clear hb ra rb)))
        clear HBig HBu S1 S0
        generalize hW : w1.alloc (.cells #[.slice qO n cO, .slice qI n cI] 42) = wq at *
        have EW := Lib.hid (Ext.trans Z2.out (Below.refl _ _))
        go_loopw [5, 6, 7, 8, 9, 10, 11, 12] (fun v5 _ _ _ _ _ _ _ wr => ∃ k : Nat, k ≤ n ∧ v5 = .int .i64 k ∧ Ext w2 wr) (fun v5 _ _ _ _ _ _ _ _ => n - (intOf v5).toNat)
        case atStart => exact ⟨0, Nat.zero_le _, rfl, Below.refl _ _⟩
        case round =>
          obtain ⟨k, hk, rfl, hE⟩ := hrel
          have S3 := Lib.hid (S2.out.call hE)
          have c0 := (S3.out.blk 0 rfl).cell 0; have c1 := (S3.out.blk 0 rfl).cell 1; have cz := (S3.out.blk 0 rfl).lt; have u0 := (S3.out.blk 1 rfl).cell 0; have u1 := (S3.out.blk 1 rfl).cell 1; have u2 := (S3.out.blk 1 rfl).cell 2; have u3 := (S3.out.blk 1 rfl).cell 3; have uz := (S3.out.blk 1 rfl).lt
          by_cases hlt : k < n
          · have d1 : (0:Int) ≤ k := by omega
            have d2 : (k:Int) < n := by omega
            have HE := Lib.hid hE; clear hE
            go_wp2
            go_loopw [6, 7, 8, 9, 10, 11, 12] (fun v6 _ _ _ _ _ _ wx => ∃ j : Nat, j ≤ n ∧ v6 = .int .i64 j ∧ Ext w2 wx) (fun v6 _ _ _ _ _ _ _ => n - (intOf v6).toNat)
            case atStart => exact ⟨0, Nat.zero_le _, rfl, HE.out⟩
            case round =>
              obtain ⟨j, hj, rfl, hF⟩ := hrel
              have S4 := Lib.hid (S2.out.call hF)
              have g0 := (S4.out.blk 0 rfl).cell 0; have g1 := (S4.out.blk 0 rfl).cell 1; have gz := (S4.out.blk 0 rfl).lt; have m0 := (S4.out.blk 1 rfl).cell 0; have m1 := (S4.out.blk 1 rfl).cell 1; have m2 := (S4.out.blk 1 rfl).cell 2; have m3 := (S4.out.blk 1 rfl).cell 3; have mz := (S4.out.blk 1 rfl).lt
              by_cases hjt : j < n
              · have d3 : (0:Int) ≤ j := by omega
                have d4 : (j:Int) < n := by omega
                have HY := Lib.hid (show ∀ W, Ext w2 W → _ from fun W (h : Ext w2 W) => LQueryG qO n cO HO A qI n cI HI B k j W (RA.out.ext (Ext.trans Z2.out h)) (RB.out.ext (Ext.trans Z2.out h)))
                have HX := Lib.hid (fun W (h : Ext w2 W) => HDs.out k j W (Ext.trans S2.out.ext h) hlt hjt)
                obtain ⟨q1, q2, q3⟩ := HQ.out k j hlt hjt
                rw [q1, q2, q3] at HY
                clear q1 q2 q3
                generalize distN (D k j) = X at *
                generalize distB (D k j) = Y at *
                have f1 : (X != X) = false := by simp
                have f2 : (Y != Y) = false := by simp
                have HF := Lib.hid hF; clear hF
                go_wp2_with (first
                  | (go_at_call 39; have _t := S5; go_must (refine (HX.out _ Z5.out).mono ?_; rintro e w6 ⟨rfl, hb⟩; have Z6 := Lib.hid (Ext.trans Z5.out hb); clear hb))
                  | (go_at_call 32; go_must (refine (HY.out _ HF.out).mono ?_; rintro e w5 ⟨rfl, hb⟩; have Z5 := Lib.hid (Ext.trans HF.out hb); have S5 := Lib.hid (S2.out.call (Ext.trans HF.out hb)); have e0 := (S5.out.blk 0 rfl).cell 0; have e1 := (S5.out.blk 0 rfl).cell 1; have ez := (S5.out.blk 0 rfl).lt; have v0 := (S5.out.blk 1 rfl).cell 0; have v1 := (S5.out.blk 1 rfl).cell 1; have v2 := (S5.out.blk 1 rfl).cell 2; have v3 := (S5.out.blk 1 rfl).cell 3; have vz := (S5.out.blk 1 rfl).lt; clear hb)))
                go_roundw
                case rel => exact ⟨j + 1, by omega, by go_num, Z6.out⟩
                case measure => simp [intOf]; omega
              · have HF := Lib.hid hF; clear hF
                go_wp2
                go_roundw
                case rel => exact ⟨k + 1, by omega, by go_num, HF.out⟩
                case measure => simp [intOf]; omega
          · have HC := Lib.hid (fun W (h : Ext w2 W) => LCheckG qO n cO HO A qI n cI HI B W (RA.out.ext (Ext.trans Z2.out h)) (RB.out.ext (Ext.trans Z2.out h)))
            rw [HK.out] at HC
            have HE := Lib.hid hE; clear hE
            go_wp2_with (first
              | (go_at_call 34; have _t := S5; go_must (refine (HC.out _ Z5.out).mono ?_; rintro e w6 ⟨rfl, hb⟩; have S6 := Lib.hid (S5.out.call hb); clear hb))
              | (go_at_call 28; go_must (refine (Labels12 _).mono ?_; rintro e w5 ⟨rfl, hb⟩; have Z5 := Lib.hid (Ext.trans HE.out hb); have S5 := Lib.hid (S2.out.call (Ext.trans HE.out hb)); have e0 := (S5.out.blk 0 rfl).cell 0; have e1 := (S5.out.blk 0 rfl).cell 1; have ez := (S5.out.blk 0 rfl).lt; have v0 := (S5.out.blk 1 rfl).cell 0; have v1 := (S5.out.blk 1 rfl).cell 1; have v2 := (S5.out.blk 1 rfl).cell 2; have v3 := (S5.out.blk 1 rfl).cell 3; have vz := (S5.out.blk 1 rfl).lt; clear hb)))
            go_ret
            exact ⟨rfl, S6.out.ext⟩
end Go.Proofs.YthlmcfbadhidbaaGreat
/- An argument that is a graph, opened: what its slices read. -/
namespace Go.Proofs.YthlmcfbadhidbaaGreat
open Go Go.RowKit Go.ChangeShapes Go.WideShapes Go.ChangeAt Go.Deep Go.Joins
theorem exists_list {α : Type} [Inhabited α] {n : Nat} {p : Nat → α → Prop} (h : ∀ i, i < n → ∃ x, p i x) : ∃ l : List α, l.length = n ∧ ∀ i, i < n → p i (nth l i) := by
  induction n with
  | zero => exact ⟨[], rfl, fun i hi => by omega⟩
  | succ n ih =>
    obtain ⟨l, hl, hp⟩ := ih fun i hi => h i (by omega)
    obtain ⟨x, hx⟩ := h n (by omega)
    refine ⟨l ++ [x], by simp [hl], fun i hi => ?_⟩
    by_cases e : i = n
    · subst e
      have : nth (l ++ [x]) i = x := by subst hl; exact nth_append_new _ _
      rw [this]; exact hx
    · rw [nth_append_left _ _ _ (by omega)]; exact hp i (by omega)
theorem spot_of_cell {w : World} {a : Addr} {v : Value} (h : w.cell? a = some v) : a = ⟨a.block, a.off, none⟩ := by
  unfold World.cell? at h
  split at h
  · split at h
    · cases h
    · rename_i hs
      obtain ⟨b, o, s⟩ := a
      cases s with
      | none => rfl
      | some s => simp at hs
  · cases h
theorem Rd.of_cells {w : World} {size n : Nat} {a : Addr} {xs : List Value} (h0 : 0 < size) (hlen : xs.length = n * size) (hs : n ≤ 9223372036854775807) (hc : ∀ j, j < n * size → w.cell? (a.add j) = some (xs.getD j undef)) : Rd w size (some a) n xs := by
  rcases Nat.eq_zero_or_pos n with hn | hn
  · subst hn
    have : xs = [] := List.eq_nil_of_length_eq_zero (by simpa using hlen)
    subst this
    exact Rd.nil _ _ _
  · have h1 := hc 0 (Nat.mul_pos hn h0)
    have ha := spot_of_cell (a := a) (by simpa [Addr.add] using h1)
    refine ⟨hlen, .inr ⟨_, _, by rw [ha]⟩, hs, fun j hj => ?_⟩
    rw [← hc j hj]
    congr 1
    rw [ha, adr_some]
    by_cases hj0 : j = 0
    · subst hj0; simp [Addr.add]
    · simp [Addr.add, hj0]
section
variable {H : Type} {enc : TypeId × Value → H} {w : World} {base : Nat} {spare : Nat → Bool} {held : Bool}
theorem open_slice_fields {P : Program} {t e : TypeId} {fs : Array Field} {fuel : Nat} {cs : List Value} {x : DataW H × List MemPlace} (ht : P.underlying t = some (.slice e)) (he : P.underlying e = some (.struct fs))
    (hone : oneCellFields P fs = true) (hC : P.cellsOf e = fs.size) (h : DataW.trod enc P w base spare held fuel t cs = some x) :
    (cs = [.slice none 0 0]) ∨
    ∃ (a : Addr) (len cap : Nat), cs = [.slice (some a) len cap] ∧ len ≤ cap ∧ cap ≤ maxLen ∧
      ∀ i, i < len → ∀ (j : Nat) (f : Field), fs[j]? = some f → ∃ (v : Value) (y : DataW H × List MemPlace) (n : Nat), w.cell? (a.add (i * fs.size + j)) = some v ∧ DataW.trod enc P w base spare held n f.type [v] = some y := by
  rcases open_slice ht h with h0 | ⟨a, len, cap, m, n, D, Pl, hcs, hb, hl, hm, hmm, hx, hi⟩
  · exact .inl h0.1
  · refine .inr ⟨a, len, cap, hcs, hl, hm, fun i hil j f hj => ?_⟩
    obtain ⟨cs', hc, ht'⟩ := hi i (by rw [hmm]; split <;> omega)
    rw [hC] at hc
    obtain ⟨ys, n', hn', hy, hlen, hyl, hf⟩ := DataW.trod_struct he ht'
    obtain ⟨_, hcl, hat⟩ := World.cells?_some hc
    obtain ⟨ho, hk⟩ := hone_of hone j f hj
    have hjl : j < fs.size := (Array.getElem?_eq_some_iff.1 hj).1
    have hcell := hat j hjl
    have hv : cs'[j]? = some (cs'[j]'(by omega)) := List.getElem?_eq_getElem (by omega)
    have h1 := hf j f hj
    rw [ho, hk] at h1
    have hone' : (cs'.drop j).take 1 = [cs'[j]'(by omega)] := by
      rw [List.drop_eq_getElem_cons (by omega)]
      rfl
    rw [hone'] at h1
    have hys : ys[j]? = some (ys[j]'(by omega)) := List.getElem?_eq_getElem (by omega)
    refine ⟨_, _, _, ?_, h1.trans hys⟩
    rw [← Go.Deep.add_add, hcell, hv]
theorem open_edges {t : TypeId} {fuel : Nat} {v : Value} {x : DataW H × List MemPlace} (ht : Tryz.prog.underlying t = some (.slice 74)) (h : DataW.trod enc Tryz.prog w base spare held fuel t [v] = some x) :
    ∃ p n c E, v = .slice p n c ∧ Rd w 2 p n (encE E) := by
  rcases open_slice_fields ht Tryz.underlying74 (by kernel_rfl) (by kernel_rfl) h with h0 | ⟨a, len, cap, hcs, hl, hm, hi⟩
  · simp at h0; exact ⟨none, 0, 0, [], h0, Rd.nil _ _ _⟩
  · simp at hcs
    have hl2 : len ≤ 9223372036854775807 := by unfold maxLen at hm; omega
    have hE : ∀ i, i < len → ∃ e : Int × Int, w.cell? (a.add (i * 2)) = some (.int .i64 e.1) ∧ w.cell? (a.add (i * 2 + 1)) = some (.int .i64 e.2) := by
      intro i hil
      obtain ⟨v1, y1, n1, c1, t1⟩ := hi i hil 0 _ rfl
      obtain ⟨v2, y2, n2, c2, t2⟩ := hi i hil 1 _ rfl
      obtain ⟨k1, e1, _⟩ := DataW.trod_int Tryz.underlying3 t1
      obtain ⟨k2, e2, _⟩ := DataW.trod_int Tryz.underlying3 t2
      simp at e1 e2
      subst e1 e2
      exact ⟨(k1, k2), c1, c2⟩
    obtain ⟨E, hEl, hEc⟩ := exists_list hE
    refine ⟨some a, len, cap, E, hcs, Rd.of_cells (by decide) (by rw [encE_len, hEl]) hl2 fun j hj => ?_⟩
    have hd : j / 2 < len := by omega
    obtain ⟨g1, g2⟩ := encE_get E (j / 2) (by omega)
    obtain ⟨h1, h2⟩ := hEc (j / 2) hd
    have hm2 : j = j / 2 * 2 ∨ j = j / 2 * 2 + 1 := by omega
    rcases hm2 with e | e
    · rw [e, g1]; exact h1
    · rw [e, g2]; exact h2
theorem open_texts {t : TypeId} {fuel : Nat} {v : Value} {x : DataW H × List MemPlace} (ht : Tryz.prog.underlying t = some (.slice 9)) (h : DataW.trod enc Tryz.prog w base spare held fuel t [v] = some x) :
    ∃ p n c l, v = .slice p n c ∧ Rd w 1 p n (encS l) := by
  rcases open_slice ht h with h0 | ⟨a, len, cap, m, n, D, Pl, hcs, hb, hl, hm, hmm, hx, hi⟩
  · obtain ⟨h0, _⟩ := h0; simp at h0; exact ⟨none, 0, 0, [], h0, Rd.nil _ _ _⟩
  · simp at hcs
    have hl2 : len ≤ 9223372036854775807 := by unfold maxLen at hm; omega
    have hc1 : Tryz.prog.cellsOf 9 = 1 := by kernel_rfl
    rw [hc1] at hi
    have hS : ∀ i, i < len → ∃ s : ByteArray, w.cell? (a.add i) = some (.string s) := by
      intro i hil
      obtain ⟨cs', hc, ht'⟩ := hi i (by rw [hmm]; split <;> omega)
      obtain ⟨s, e1, _⟩ := DataW.trod_string Tryz.underlying9 ht'
      obtain ⟨_, hcl, hat⟩ := World.cells?_some hc
      have := hat 0 (by decide)
      rw [Go.Deep.add_add, Nat.mul_one, Nat.add_zero, e1] at this
      exact ⟨s, this⟩
    obtain ⟨l, hll, hlc⟩ := exists_list hS
    refine ⟨some a, len, cap, l, hcs, Rd.of_cells (by decide) (by rw [encS_len, hll, Nat.mul_one]) hl2 fun j hj => ?_⟩
    rw [encS_get l j (by omega)]
    exact hlc j (by omega)
theorem open_rows {t : TypeId} {fuel : Nat} {v : Value} {x : DataW H × List MemPlace} (ht : Tryz.prog.underlying t = some (.slice 129)) (h : DataW.trod enc Tryz.prog w base spare held fuel t [v] = some x) :
    ∃ p n c hs W, v = .slice p n c ∧ RdW w p n hs W := by
  rcases open_slice ht h with h0 | ⟨a, len, cap, m, n, D, Pl, hcs, hb, hl, hm, hmm, hx, hi⟩
  · obtain ⟨h0, _⟩ := h0; simp at h0; exact ⟨none, 0, 0, [], [], h0, rfl, Rd.nil _ _ _, fun j hj => by omega⟩
  · simp at hcs
    have hl2 : len ≤ 9223372036854775807 := by unfold maxLen at hm; omega
    have hc1 : Tryz.prog.cellsOf 129 = 1 := by kernel_rfl
    rw [hc1] at hi
    have hS : ∀ i, i < len → ∃ q : Hd × List ByteArray, w.cell? (a.add i) = some (.slice q.1.p q.1.n q.1.c) ∧ Rd w 1 q.1.p q.1.n (encS q.2) := by
      intro i hil
      obtain ⟨cs', hc, ht'⟩ := hi i (by rw [hmm]; split <;> omega)
      obtain ⟨_, hcl, hat⟩ := World.cells?_some hc
      match cs', hcl with
      | [u], _ =>
        obtain ⟨p, n', c', l, e1, hr⟩ := open_texts Tryz.underlying129 ht'
        have := hat 0 (by decide)
        rw [Go.Deep.add_add, Nat.mul_one, Nat.add_zero, e1] at this
        exact ⟨(⟨p, n', c'⟩, l), this, hr⟩
    obtain ⟨l, hll, hlc⟩ := exists_list hS
    have hm : ∀ i, i < len → nth (l.map (·.1)) i = (nth l i).1 ∧ nth (l.map (·.2)) i = (nth l i).2 := fun i hil => by
      rw [nth_eq (l := l.map (·.1)) (by rw [List.length_map]; omega), nth_eq (l := l.map (·.2)) (by rw [List.length_map]; omega), nth_eq (l := l) (by omega)]; simp
    refine ⟨some a, len, cap, l.map (·.1), l.map (·.2), hcs, by simp, Rd.of_cells (by decide) (by rw [encH_len, List.length_map, hll, Nat.mul_one]) hl2 fun j hj => ?_, fun j hj => ?_⟩
    · rw [encH_get _ j (by simp; omega), (hm j (by omega)).1]
      exact (hlc j (by omega)).1
    · rw [(hm j hj).1, (hm j hj).2]
      exact (hlc j hj).2
set_option maxRecDepth 100000 in
/-- a graph by value -/
theorem open_graph {r : Reach} {b0 : Nat} {v : Value} {d : DataW H} {p : List MemPlace} (hv : Value.okWide Tryz.prog w r b0 78 v) (h : DataW.Trod enc Tryz.prog w base spare held 78 v d p) :
    ∃ N pe ne ce pw nw cw E hs W, v = .agg #[.int .i64 N, .slice pe ne ce, .slice pw nw cw] ∧ Rd w 2 pe ne (encE E) ∧ RdW w pw nw hs W := by
  obtain ⟨v0, v1, v2, y0, y1, y2, n, rfl, _, _, t0, t1, t2⟩ := open_agg3 Tryz.underlying78 (by kernel_rfl) (by kernel_rfl) hv h
  obtain ⟨N, e0, _⟩ := DataW.trod_int Tryz.underlying3 t0
  simp at e0
  subst e0
  obtain ⟨pe, ne, ce, E, rfl, hE⟩ := open_edges Tryz.underlying75 t1
  obtain ⟨pw, nw, cw, hs, W, rfl, hW⟩ := open_rows Tryz.underlying76 t2
  exact ⟨N, pe, ne, ce, pw, nw, cw, E, hs, W, rfl, hE, hW⟩
end
end Go.Proofs.YthlmcfbadhidbaaGreat
/- The last step of a law's row: the result is true, the arguments read as they did, where the call only made memory. -/
namespace Go.Proofs.YthlmcfbadhidbaaGreat
open Go Go.RowKit Go.WideShapes Go.ChangeShapes
theorem own : ownKnob Tryz.prog.godebug = none := by kernel_rfl
theorem laidOut : laidOutB Tryz.prog = true := by kernel_rfl
set_option maxRecDepth 100000 in
/-- true comes back, the arguments stay: what is left to show is their reading -/
theorem law_post {H : Type} {enc : TypeId × Value → H} {f : Func} {s : ChangeSpec} {apart fresh handsOn again : Bool} {W W' : World} {args : Array Value} {ds : List (DataW H)} {before : List MemPlace}
    (hW : DataW.Whole enc Tryz.prog f.params.toList s.vars apart W args.toList ds [] before) (ht : f.resultTypes = #[4]) (hvars : s.vars = [])
    (hfn : s.fn H (ds ++ []) = { results := [.lit (.bool true)], args := ds })
    (hargs : ∀ sp : Nat → Bool, (∀ p ∈ before, sp p.block = true) → DataW.TrodAll enc Tryz.prog W' 0 sp true f.params.toList args.toList ds before)
    (hb : Below W.heap.size W W') : s.post enc Tryz.prog f apart fresh handsOn again W args (.bool true) W' := by
  have lits : ∀ (b : Nat) (sp : Nat → Bool) (hd : Bool), DataW.TrodAll enc Tryz.prog W' b sp hd f.resultTypes.toList ((Value.bool true).resultList f.resultTypes.size) (s.fn H (ds ++ [])).results [] := by
    intro b sp hd
    rw [hfn, ht]
    exact trodAll_mk1 (shut_bool Tryz.underlying4 true)
  have hold : ∀ sp : Nat → Bool, (∀ p ∈ before, sp p.block = true) → DataW.TrodAll enc Tryz.prog W' 0 sp true f.params.toList args.toList (s.fn H (ds ++ [])).args before := by
    intro sp hsp
    rw [hfn]; exact hargs sp hsp
  have hv : ∀ sp : Nat → Bool, DataW.TrodVars enc Tryz.prog W' sp s.vars (s.fn H (ds ++ [])).vars [] := by
    intro sp; rw [hfn, hvars]; rfl
  have hin : ∀ p ∈ before, p.block < W.heap.size := fun p hp => hW.lt p hp
  have same : before = before ++ [] := by simp
  refine ⟨ds, [], before, [], before, [], hW, lits _ _ _, hold _ (fun p hp => by simpa using hin p hp), hv _, World.keptBut_mono (fun p hp => ⟨hp, .inr (by simpa using hp)⟩) (hb.frame (· ∈ before)), fun _ => ?_⟩
  have hW2 := hW
  obtain ⟨_, _, _, _, _, hz, hn⟩ := hW2
  refine ⟨ok_one (by rw [ht]) rfl (okWide_bool_mk Tryz.underlying4 _), _, _, ([] ++ before) ++ [], ⟨[] ++ before, [], trodAll_append (hold _ (fun _ _ => rfl)) (lits _ _ _), hv _, rfl, ?_, ?_⟩, ?_⟩
  · intro b off hp
    have hp2 : MemPlace.cell b off ∈ before := by simpa using hp
    rw [hb.frozen (hin _ hp2)]
    exact hz b off hp2
  · intro ha
    simpa using hn ha
  · intro p hp _
    simpa using hp
/-- an argument's reading, carried behind the call -/
theorem stays {H : Type} {enc : TypeId × Value → H} {W W' : World} {t : TypeId} {v : Value} {d : DataW H} {ps : List MemPlace} (hr : Tryz.prog.readableRec t = true) (hrow : t < Tryz.prog.types.size) (h : DataW.Trod enc Tryz.prog W 0 (fun _ => true) true t v d ps)
    (hb : Below W.heap.size W W') (hlt : ∀ x ∈ ps, x.block < W.heap.size) {sp : Nat → Bool} (hsp : ∀ x ∈ ps, sp x.block = true) : DataW.Trod enc Tryz.prog W' 0 sp true t v d ps :=
  WideElems.Trod_stays laidOut hr hrow h (fun x hx => hb.same (hlt x hx)) hsp
/-- all readings, one by one -/
theorem trodAll_turn {H : Type} {enc : TypeId × Value → H} {P : Program} {W W' : World} {sp sp' : Nat → Bool} {hd : Bool} (ts : List TypeId) : ∀ {vs : List Value} {ds : List (DataW H)} {ps : List MemPlace}, DataW.TrodAll enc P W 0 sp hd ts vs ds ps →
    (∀ t ∈ ts, ∀ v d p, (∀ x ∈ p, x ∈ ps) → DataW.Trod enc P W 0 sp hd t v d p → DataW.Trod enc P W' 0 sp' hd t v d p) → DataW.TrodAll enc P W' 0 sp' hd ts vs ds ps := by
  induction ts with
  | nil =>
    intro vs ds ps h _
    obtain ⟨rfl, rfl, rfl⟩ := trodAll_nil h
    exact trodAll_mk0
  | cons t ts ih =>
    intro vs ds ps h hk
    obtain ⟨v, vs', d, ds', p, q, rfl, rfl, rfl, h1, h2⟩ := trodAll_cons h
    exact trodAll_cons_mk (hk t (by simp) v d p (fun x hx => by simp [hx]) h1) (ih h2 fun t' ht' v' d' p' hp' h' => hk t' (by simp [ht']) v' d' p' (fun x hx => by simp [hp' x hx]) h')
/-- all arguments' reading, carried behind the call -/
theorem stays_all {H : Type} {enc : TypeId × Value → H} {W W' : World} {ts : List TypeId} {vs : List Value} {ds : List (DataW H)} {ps : List MemPlace} (hr : ts.all (fun t => Tryz.prog.readableRec t && decide (t < Tryz.prog.types.size)) = true)
    (h : DataW.TrodAll enc Tryz.prog W 0 (fun _ => true) true ts vs ds ps) (hb : Below W.heap.size W W') (hlt : ∀ x ∈ ps, x.block < W.heap.size) {sp : Nat → Bool} (hsp : ∀ x ∈ ps, sp x.block = true) : DataW.TrodAll enc Tryz.prog W' 0 sp true ts vs ds ps :=
  trodAll_turn ts h fun t ht v d p hp h1 => by
    have h2 := List.all_eq_true.1 hr t ht
    rw [Bool.and_eq_true, decide_eq_true_eq] at h2
    exact stays h2.1 h2.2 h1 hb (fun x hx => hlt x (hp x hx)) (fun x hx => hsp x (hp x hx))
end Go.Proofs.YthlmcfbadhidbaaGreat
/- Arguments that are rows of numbers, of texts, of postings: what they read. -/
namespace Go.Proofs.YthlmcfbadhidbaaGreat
open Go Go.RowKit Go.ChangeShapes Go.WideShapes Go.ChangeAt Go.Deep Go.Joins
section
variable {H : Type} {enc : TypeId × Value → H} {w : World} {base : Nat} {spare : Nat → Bool} {held : Bool}
theorem trod_ints {t : TypeId} {fuel : Nat} {v : Value} {x : DataW H × List MemPlace} (ht : Tryz.prog.underlying t = some (.slice 3)) (h : DataW.trod enc Tryz.prog w base spare held fuel t [v] = some x) :
    ∃ p n c l, v = .slice p n c ∧ n ≤ c ∧ Rd w 1 p n (encI l) ∧ ∀ x ∈ l, I64 x := by
  rcases open_slice ht h with h0 | ⟨a, len, cap, m, n, D, Pl, hcs, hb, hl, hm, hmm, hx, hi⟩
  · obtain ⟨h0, _⟩ := h0; simp at h0; exact ⟨none, 0, 0, [], h0, Nat.le_refl _, Rd.nil _ _ _, fun x hx => nomatch hx⟩
  · simp at hcs
    have hl2 : len ≤ 9223372036854775807 := by unfold maxLen at hm; omega
    have hc1 : Tryz.prog.cellsOf 3 = 1 := by kernel_rfl
    rw [hc1] at hi
    have hS : ∀ i, i < len → ∃ s : Int, w.cell? (a.add i) = some (.int .i64 s) ∧ I64 s := by
      intro i hil
      obtain ⟨cs', hc, ht'⟩ := hi i (by rw [hmm]; split <;> omega)
      obtain ⟨s, e1, _, hw⟩ := DataW.trod_int Tryz.underlying3 ht'
      obtain ⟨_, hcl, hat⟩ := World.cells?_some hc
      have := hat 0 (by decide)
      rw [Go.Deep.add_add, Nat.mul_one, Nat.add_zero, e1] at this
      exact ⟨s, this, hw⟩
    obtain ⟨l, hll, hlc⟩ := exists_list hS
    refine ⟨some a, len, cap, l, hcs, hl, Rd.of_cells (by decide) (by rw [encI_len, hll, Nat.mul_one]) hl2 fun j hj => ?_, fun x hx => ?_⟩
    · rw [encI_get l j (by omega)]
      exact (hlc j (by omega)).1
    · obtain ⟨j, hj, rfl⟩ := List.mem_iff_getElem.1 hx
      rw [← nth_eq hj]
      exact (hlc j (by omega)).2
theorem trod_texts {t : TypeId} {fuel : Nat} {v : Value} {x : DataW H × List MemPlace} (ht : Tryz.prog.underlying t = some (.slice 9)) (h : DataW.trod enc Tryz.prog w base spare held fuel t [v] = some x) :
    ∃ p n c l, v = .slice p n c ∧ n ≤ c ∧ Rd w 1 p n (encS l) := by
  obtain ⟨p, n, c, l, rfl, hr⟩ := open_texts ht h
  refine ⟨p, n, c, l, rfl, ?_, hr⟩
  rcases open_slice ht h with h0 | ⟨a, len, cap, m, n', D, Pl, hcs, hb, hl, _⟩
  · obtain ⟨h0, _⟩ := h0; simp at h0; omega
  · simp at hcs; omega
set_option maxRecDepth 100000 in
theorem open_top {t e : TypeId} {r : Reach} {b0 : Nat} {v : Value} {d : DataW H} {p : List MemPlace} (ht : Tryz.prog.underlying t = some (.slice e)) (hv : Value.okWide Tryz.prog w r b0 t v) (h : DataW.Trod enc Tryz.prog w base spare held t v d p) :
    ∃ fuel, DataW.trod enc Tryz.prog w base spare held fuel t [v] = some (d, p) := by
  obtain ⟨a, n, c, rfl⟩ := okWide_slice ht hv
  exact h
set_option maxRecDepth 100000 in
theorem open_introw {r : Reach} {b0 : Nat} {v : Value} {d : DataW H} {p : List MemPlace} (hv : Value.okWide Tryz.prog w r b0 22 v) (h : DataW.Trod enc Tryz.prog w base spare held 22 v d p) :
    ∃ p n c l, v = .slice p n c ∧ n ≤ c ∧ Rd w 1 p n (encI l) ∧ ∀ x ∈ l, I64 x := by
  obtain ⟨f, hf⟩ := open_top Tryz.underlying22 hv h
  exact trod_ints Tryz.underlying22 hf
set_option maxRecDepth 100000 in
theorem open_textrow {r : Reach} {b0 : Nat} {v : Value} {d : DataW H} {p : List MemPlace} (hv : Value.okWide Tryz.prog w r b0 129 v) (h : DataW.Trod enc Tryz.prog w base spare held 129 v d p) :
    ∃ p n c l, v = .slice p n c ∧ n ≤ c ∧ Rd w 1 p n (encS l) := by
  obtain ⟨f, hf⟩ := open_top Tryz.underlying129 hv h
  exact trod_texts Tryz.underlying129 hf
end
end Go.Proofs.YthlmcfbadhidbaaGreat
/- An argument that is rows, opened. -/
namespace Go.Proofs.YthlmcfbadhidbaaGreat
open Go Go.RowKit Go.ChangeShapes Go.WideShapes Go.ChangeAt Go.Deep Go.Joins
section
variable {H : Type} {enc : TypeId × Value → H} {w : World} {base : Nat} {spare : Nat → Bool} {held : Bool}
set_option maxRecDepth 100000 in
theorem open_rowsarg {r : Reach} {b0 : Nat} {v : Value} {d : DataW H} {p : List MemPlace} (hv : Value.okWide Tryz.prog w r b0 24 v) (h : DataW.Trod enc Tryz.prog w base spare held 24 v d p) :
    ∃ po no co O pt nt ct T pr nr cr R pv nv cv V, v = .agg #[.slice po no co, .slice pt nt ct, .slice pr nr cr, .slice pv nv cv] ∧ Rd w 1 po no (encI O) ∧ Rd w 1 pt nt (encI T) ∧ Rd w 1 pr nr (encI R) ∧ Rd w 1 pv nv (encI V) ∧ no ≤ co ∧ nt ≤ ct ∧ nr ≤ cr ∧ nv ≤ cv := by
  obtain ⟨v0, v1, v2, v3, y0, y1, y2, y3, n, rfl, _, _, t0, t1, t2, t3⟩ := open_agg4 Tryz.underlying24 (by kernel_rfl) (by kernel_rfl) hv h
  obtain ⟨po, no, co, O, rfl, c0, h0, _⟩ := trod_ints Tryz.underlying22 t0
  obtain ⟨pt, nt, ct, T, rfl, c1, h1, _⟩ := trod_ints Tryz.underlying22 t1
  obtain ⟨pr, nr, cr, R, rfl, c2, h2, _⟩ := trod_ints Tryz.underlying22 t2
  obtain ⟨pv, nv, cv, V, rfl, c3, h3, _⟩ := trod_ints Tryz.underlying22 t3
  exact ⟨po, no, co, O, pt, nt, ct, T, pr, nr, cr, R, pv, nv, cv, V, rfl, h0, h1, h2, h3, c0, c1, c2, c3⟩
end
end Go.Proofs.YthlmcfbadhidbaaGreat
/- Chapter 12: rows that are turned have the labels in one another's place. -/
namespace Go.Proofs.YthlmcfbadhidbaaGreat
open Go Go.RowKit
theorem checkR_turn1 {O T R V : List Int} (h : checkR O T R V = true) : checkR R V O T = true := by
  obtain ⟨h1, h2, h3, h4⟩ := checkR_half h
  unfold checkR
  rw [h3, h4, decide_eq_true h1.symm, decide_eq_true h2.symm]
  simp only [Bool.true_and, List.all_eq_true]
  intro x hx
  obtain ⟨v, hv, e1, e2⟩ := mem_pairs.1 hx
  have hb := pair_bd h4 hx
  obtain ⟨u, hu⟩ : ∃ u : Nat, x.2 = u := ⟨x.2.toNat, by omega⟩
  have hr := row_turn h (v := v) (u := u) (by omega) (by omega)
  rw [hu, e1, Int.toNat_natCast, hr, inB_iff, ← hu]
  exact e2
theorem checkR_turn (O T R V : List Int) : checkR R V O T = checkR O T R V := by
  apply Bool.eq_iff_iff.2
  exact ⟨checkR_turn1, checkR_turn1⟩
theorem wayN_turn (O R : List Int) : wayN R O = wayN O R := by
  funext v; unfold wayN; omega
theorem byL_turn (O R : List Int) (n : Nat) : byL R O n = byL O R n := by
  unfold byL byP; rw [wayN_turn]
theorem lchk_turn {A B : SrT} (h : A.length = B.length) : lchkB B A = lchkB A B := by
  unfold lchkB
  rw [h]
  congr 1
  congr 1
  funext v
  exact Bool.and_comm _ _
theorem query_turn {A B : SrT} (h : A.length = B.length) (f t : Int) : queryN B A t f = queryN A B f t ∧ queryO B A t f = queryO A B f t ∧ queryC B A t f = queryC A B f t := by
  have hq : queryB B A t f = queryB A B f t := by
    unfold queryB
    rw [lchk_turn h, h]
    cases lchkB A B <;> cases decide (0 ≤ f) <;> cases decide (f < (B.length : Int)) <;> cases decide (0 ≤ t) <;> cases decide (t < (B.length : Int)) <;> rfl
  unfold queryN queryO queryC
  rw [hq, leastV_comm]
  exact ⟨rfl, rfl, rfl⟩
theorem lsize_turn (A B : SrT) : lsize B A = lsize A B := by unfold lsize; omega
theorem hitsN_bd {T : SrT} {m : Nat} (h : ∀ v, v < T.length → (nth T v).length ≤ m) : ∀ k, k ≤ T.length → hitsN T k ≤ k * m
  | 0, _ => by simp [hitsN]
  | k + 1, hk => by
    rw [hitsN_step (by omega), Nat.succ_mul]
    have := hitsN_bd h k (by omega)
    have := h k (by omega)
    omega
theorem lsize_lab {na nb : Nat → List Int} {n : Nat} {L : List Int} (hn : n ≤ 200) : lsize (labT na n L n) (labT nb n L n) ≤ 80000 := by
  have key : ∀ nx, hitsN (labT nx n L n) (labT nx n L n).length ≤ 40000 := fun nx => by
    have h1 := hitsN_bd (T := labT nx n L n) (m := n) (fun v hv => by
      rw [labT_len] at hv; rw [labT_nth hv]; exact labI_len ..) _ (Nat.le_refl _)
    rw [labT_len] at h1 ⊢
    have : n * n ≤ 200 * 200 := Nat.mul_le_mul hn hn
    omega
  unfold lsize
  have := key na
  have := key nb
  omega
end Go.Proofs.YthlmcfbadhidbaaGreat
/- Chapter 12 (reference): labels in memory of their own. -/
namespace Go.Proofs.YthlmcfbadhidbaaGreat
open Go Go.RowKit
theorem OwnH09 (p : Option Addr) (n c : Nat) (l : List (Int × Int)) (w : World) (hl : Rd w 2 p n (encE l)) (hn : n ≤ 10000000) :
    Calls Tryz.prog 76 #[.slice p n c] w fun e w' => ∃ q c', e = .returned (.slice q n c') ∧ Sep w w' [.own 54 2 q n c' (encE l)] := by
  obtain ⟨i0, hi0, hz0, hz1, hz2⟩ := info_parts infHit
  have HL := Lib.hid hl; clear hl
  have S0 := Lib.hid ((Sep.start w).nilrow 54 2)
  go_enter Tryz.func76, Tryz.ntmps76
  go_wp2_with (at_builtin; go_must (refine wpList_append_sep rfl _ _ _ rfl 54 i0 _ 2 16 Tryz.underlying52 hi0 hz0 hz1 hz2 rfl (by omega) S0.out 0 none 0 0 [] rfl rfl p n c (encE l) rfl HL.out (one_encE l) (by omega) (by omega) ?_; intro q' c' w1 S1 hsz; have S2 := Lib.hid S1; clear S1 hsz))
  go_ret
  exact ⟨q', c', rfl, by have := S2.out; rw [Nat.zero_add, List.nil_append] at this; exact this⟩
/-- rows of hits, as pieces -/
def rowsT (T : SrT) (hs : List Hd) : List (Hd × List Value) := hs.zip (T.map encE)
theorem rowsT_snoc (T : SrT) (hs : List Hd) (l : List (Int × Int)) (a : Hd) (h : hs.length = T.length) : rowsT (T ++ [l]) (hs ++ [a]) = rowsT T hs ++ [(a, encE l)] := by
  unfold rowsT
  rw [List.map_append, List.zip_append (by simpa using h)]; rfl
theorem rowsT_at {T : SrT} {hs : List Hd} {k : Nat} (h : hs.length = T.length) (hk : k < T.length) : (nth hs k, encE (nth T k)) ∈ rowsT T hs := by
  unfold rowsT
  rw [List.mem_iff_getElem]
  refine ⟨k, by simp; omega, ?_⟩
  rw [List.getElem_zip, nth_eq (by omega), nth_eq hk, List.getElem_map]
theorem encH_snoc (hs : List Hd) (a : Hd) : encH (hs ++ [a]) = encH hs ++ [.slice a.p a.n a.c] := by simp [encH, Hd.v]
/-- pieces of rows are read -/
theorem RdT.of_sep {w0 w : World} {Γ : List Pc} (S : Sep w0 w Γ) (j i : Nat) {q : Option Addr} {n c : Nat} {hs : List Hd} {T : SrT} (hj : Γ[j]? = some (.many 54 2 (rowsT T hs))) (hi : Γ[i]? = some (.own 52 1 q n c (encH hs))) (hl : hs.length = T.length) : RdT w q n hs T := by
  have ho := S.own i hi
  have hn : n = T.length := by have := ho.1; rw [encH_len] at this; omega
  refine ⟨Rd.of_own ho (own_small ho), hn.symm, fun k hk => ?_⟩
  have h1 := S.manyAt j hj _ (rowsT_at hl (show k < T.length by omega))
  exact Rd.of_own h1 (own_small h1)
set_option maxHeartbeats 1000000 in
theorem OwnT12 (p : Option Addr) (n c : Nat) (hs : List Hd) (T : SrT) (w : World) (hT : RdT w p n hs T) (hok : ∀ v, v < n → (nth T v).length ≤ 10000000) (hn : n ≤ 100000) :
    Calls Tryz.prog 58 #[.slice p n c] w fun e w' => ∃ q c' hs', e = .returned (.slice q n c') ∧ hs'.length = n ∧ Sep w w' [.many 54 2 (rowsT T hs'), .own 52 1 q n c' (encH hs')] := by
  obtain ⟨i0, hi0, hz0, hz1, hz2⟩ := info_parts infHits
  have p1 := hT.row.ptr
  have n1 := hT.row.small
  have l1 := hT.len
  have HL := Lib.hid hT; clear hT
  have L1 := Lib.hid l1; clear l1
  have HOK := Lib.hid hok; clear hok
  have S0 := Lib.hid (((Sep.start w).nilrow 52 1).many0 54 2)
  go_enter Tryz.func58, Tryz.ntmps58
  go_wp2
  go_loopw [3, 4, 5] (fun v i _ wr => ∃ (k : Nat) (q : Option Addr) (c' : Nat) (hs' : List Hd), k ≤ n ∧ i = .int .i64 k ∧ v = .slice q k c' ∧ hs'.length = (T.take k).length ∧ Sep w wr [.many 54 2 (rowsT (T.take k) hs'), .own 52 1 q k c' (encH hs')]) (fun _ i _ _ => n - (intOf i).toNat)
  case atStart => exact ⟨0, none, 0, [], Nat.zero_le _, rfl, rfl, rfl, S0.out⟩
  case round =>
    clear S0
    obtain ⟨k, q, c', hs', hk, rfl, rfl, hlh, S⟩ := hrel
    have HLH := Lib.hid hlh; clear hlh
    by_cases hlt : k < n
    · have g1 := S.ext.cell (HL.out.row.cH hlt)
      have RE := Lib.hid ((HL.out.each k hlt).ext S.ext)
      have LE := Lib.hid RE.out.nE
      have SH := Lib.hid S; clear S
      have d1 : (0:Int) ≤ k := by omega
      have d2 : (k:Int) < n := by omega
      have hlen : (nth hs k).n ≤ 10000000 := by rw [LE.out]; exact HOK.out k hlt
      have HT := Lib.hid (take_succ_nth T k (by rw [L1.out]; exact hlt))
      go_wp2_with (first
        | (at_builtin; go_must (refine wpList_append_sep rfl _ _ _ rfl 52 i0 _ 1 24 Tryz.underlying40 hi0 hz0 hz1 hz2 rfl (by omega) (S2.out.junk _) 1 q k c' _ rfl rfl _ 1 1 _ rfl (Rd.new _ _ _ 1 1 rfl (by omega)) (one_slice _ _ _) (by omega) (by omega) ?_; intro u' e' w4 S' hsz; have S3 := Lib.hid S'; clear S' hsz))
        | (go_at_call 76; go_must (refine (OwnH09 _ _ _ _ _ RE.out (by omega)).mono ?_; rintro e w2 ⟨q2, c2, rfl, Z⟩; have S2 := Lib.hid ((SH.out.comp Z).gather); have g1 := (SH.out.ext.trans Z.ext).cell (HL.out.row.cH hlt); clear Z)))
      go_roundw
      case rel => exact ⟨k + 1, u', e', hs' ++ [⟨q2, (nth hs k).n, c2⟩], by omega, by go_num, rfl, by rw [HT.out, List.length_append, List.length_append, HLH.out]; rfl, by rw [HT.out, rowsT_snoc _ _ _ _ HLH.out, encH_snoc]; exact S3.out⟩
      case measure => simp [intOf]; omega
    · obtain rfl : k = n := by omega
      have HT : Hid (T.take k = T) := by unfold Hid; rw [List.take_of_length_le (by rw [L1.out]; omega)]
      rw [HT.out] at HLH S
      have SH := Lib.hid S; clear S
      go_wp2
      go_ret
      exact ⟨q, c', hs', rfl, by rw [HLH.out, L1.out], SH.out⟩
set_option maxRecDepth 100000 in
set_option maxHeartbeats 2000000 in
theorem OwnL12 (pA : Option Addr) (nA cA : Nat) (hA : List Hd) (A : SrT) (pB : Option Addr) (nB cB : Nat) (hB : List Hd) (B : SrT) (w : World) (RA : RdT w pA nA hA A) (RB : RdT w pB nB hB B) (hoA : ∀ v, v < nA → (nth A v).length ≤ 10000000) (hoB : ∀ v, v < nB → (nth B v).length ≤ 10000000) (hnA : nA ≤ 100000) (hnB : nB ≤ 100000) :
    Calls Tryz.prog 31 #[.agg #[.slice pA nA cA, .slice pB nB cB]] w fun e w' => ∃ qA kA hA' qB kB hB', e = .returned (.agg #[.slice qA nA kA, .slice qB nB kB]) ∧ hA'.length = nA ∧ hB'.length = nB ∧
      Sep w w' [.many 54 2 (rowsT B hB'), .own 52 1 qB nB kB (encH hB'), .many 54 2 (rowsT A hA'), .own 52 1 qA nA kA (encH hA')] := by
  have HA := Lib.hid (fun W (h : Ext w W) => OwnT12 pA nA cA hA A W (RA.ext h) hoA hnA)
  have HB := Lib.hid (fun W (h : Ext w W) => OwnT12 pB nB cB hB B W (RB.ext h) hoB hnB)
  clear RA RB hoA hoB
  have S0 := Lib.hid (((Sep.start w).al #[.slice pA nA cA, .slice pB nB cB] 42 w.heap.size rfl).al #[.slice none 0 0, .slice none 0 0] 42 (w.heap.size + 1) (by simp))
  obtain ⟨X, hX⟩ : ∃ X, X = (w.alloc (.cells #[.slice pA nA cA, .slice pB nB cB] 42)).alloc (.cells #[.slice none 0 0, .slice none 0 0] 42) := ⟨_, rfl⟩
  rw [← hX] at S0
  go_enter Tryz.func31, Tryz.ntmps31
  go_wp2
  rw [← hX]
  clear hX
  refine reg_mono (α := Option Addr × Nat × List Hd × Option Addr × Nat × List Hd) (fun x a => (((((((a.put (some 3) (.pointer (some ⟨w.heap.size, 0, none⟩))).put (some 4) (.slice pA nA cA)).put (some 5) (.slice x.1 nA x.2.1)).put (some 6) (.pointer (some ⟨w.heap.size, 1, none⟩))).put (some 7) (.slice pB nB cB)).put (some 8) (.slice x.2.2.2.1 nB x.2.2.2.2.1)).put (some 9) (.agg #[.slice x.1 nA x.2.1, .slice x.2.2.2.1 nB x.2.2.2.2.1])))
    (fun x W => x.2.2.1.length = nA ∧ x.2.2.2.2.2.length = nB ∧ Sep w W [.many 54 2 (rowsT B x.2.2.2.2.2), .own 52 1 x.2.2.2.1 nB x.2.2.2.2.1 (encH x.2.2.2.2.2), .many 54 2 (rowsT A x.2.2.1), .own 52 1 x.1 nA x.2.1 (encH x.2.2.1), .blk (w.heap.size + 1) 42 #[.slice x.1 nA x.2.1, .slice x.2.2.2.1 nB x.2.2.2.2.1]]) ?_ ?_
  · have b0 := (S0.out.blk 1 rfl).cell 0
    have b1 := (S0.out.blk 1 rfl).cell 1
    refine wp_region_held_drew (S := fun w' => w'.cell? ⟨w.heap.size, 0, none⟩ = some (.slice pA nA cA) ∧ w'.cell? ⟨w.heap.size, 1, none⟩ = some (.slice pB nB cB)) (by kernel_rfl) (by (try dsimp only); go_keep) (fun hHeld => ?_)
    have SD := Lib.hid S0.out.drew
    clear S0 b0 b1
    refine wpAnyH_take (i := 0) (v := .pointer (some ⟨w.heap.size, 0, none⟩)) rfl (by kernel_rfl) (by kernel_rfl) (by kernel_rfl) (fun _ _ _ h => by cases h.1) (Or.inl ⟨by rfl, fun W hSw => by obtain ⟨h1, h2⟩ := hSw; go_simp⟩) hHeld ?_
    refine wpAnyH_take (i := 1) (v := .slice pA nA cA) rfl (by kernel_rfl) (by kernel_rfl) (by kernel_rfl) (fun _ _ _ h => by cases h.1) (Or.inl ⟨by rfl, fun W hSw => by obtain ⟨h1, h2⟩ := hSw; go_simp⟩) hHeld ?_
    refine wpAnyH_take (i := 3) (v := .pointer (some ⟨w.heap.size, 1, none⟩)) rfl (by kernel_rfl) (by kernel_rfl) (by kernel_rfl) (fun _ _ _ h => by cases h.1) (Or.inl ⟨by rfl, fun W hSw => by obtain ⟨h1, h2⟩ := hSw; go_simp⟩) hHeld ?_
    refine wpAnyH_take (i := 4) (v := .slice pB nB cB) rfl (by kernel_rfl) (by kernel_rfl) (by kernel_rfl) (fun _ _ _ h => by cases h.1) (Or.inl ⟨by rfl, fun W hSw => by obtain ⟨h1, h2⟩ := hSw; go_simp⟩) hHeld ?_
    refine wpAnyH_ready (rs := [2]) (by kernel_rfl) (by simp) (AllReadyH.cons rfl (fun K hK => ?_) AllReadyH.nil)
    go_simp
    refine (HA.out _ SD.out.ext).mono ?_
    rintro e w1 ⟨qA, kA, hA', rfl, lA, Z⟩
    have S1 := Lib.hid (SD.out.comp Z)
    have hc0 := (S1.out.blk 3 rfl).cell 0
    have hc1 := (S1.out.blk 3 rfl).cell 1
    refine hK.out _ _ ⟨hc0, hc1⟩ (fun hHeld => ?_)
    clear hK Z hc0 hc1
    refine wpAnyH_ready (rs := [5]) (by kernel_rfl) (by simp) (AllReadyH.cons rfl (fun K hK => ?_) AllReadyH.nil)
    go_simp
    refine (HB.out _ S1.out.ext).mono ?_
    rintro e w2 ⟨qB, kB, hB', rfl, lB, Z⟩
    have S2 := Lib.hid (S1.out.comp Z)
    have hc0 := (S2.out.blk 5 rfl).cell 0
    have hc1 := (S2.out.blk 5 rfl).cell 1
    refine hK.out _ _ ⟨hc0, hc1⟩ (fun hHeld => ?_)
    clear hK Z hc0 hc1
    refine wpAnyH_take (i := 6) (v := .agg #[.slice qA nA kA, .slice qB nB kB]) rfl (by kernel_rfl) (by kernel_rfl) (by kernel_rfl) (fun _ _ _ h => by cases h.1) (Or.inl ⟨by rfl, fun W hSw => by obtain ⟨h1, h2⟩ := hSw; go_simp⟩) hHeld ?_
    have rf0 := (S2.out.blk 4 rfl).frozen 0
    have rf1 := (S2.out.blk 4 rfl).frozen 1
    have r0 := (S2.out.blk 4 rfl).cell 0
    have r1 := (S2.out.blk 4 rfl).cell 1
    have rz := (S2.out.blk 4 rfl).lt
    have S3 := Lib.hid ((S2.out.set 4 rfl 0 (.slice qA nA kA)).set 4 rfl 1 (.slice qB nB kB))
    refine wpAnyH_ready (rs := [7]) (by kernel_rfl) (by simp) (AllReadyH.cons rfl (fun K hK => ?_) AllReadyH.nil)
    go_simp
    have hc0 := (S3.out.blk 5 rfl).cell 0
    have hc1 := (S3.out.blk 5 rfl).cell 1
    refine hK.out _ _ ⟨hc0, hc1⟩ (fun hHeld => ?_)
    clear hK
    refine wpAnyH_done (by kernel_rfl) ?_ _
    exact ⟨rfl, (qA, kA, hA', qB, kB, hB'), by simp [Act.put], lA, lB, S3.out.pick [0, 1, 2, 3, 4] (by decide) rfl⟩
  · rintro ⟨qA, kA, hA', qB, kB, hB'⟩ W ⟨lA, lB, S⟩
    have y0 := (S.blk 4 rfl).cell 0
    have y1 := (S.blk 4 rfl).cell 1
    go_wp2
    refine bodyPost_ret (v := .agg #[.slice qA nA kA, .slice qB nB kB]) (by simp [results, Tryz.results31, go_sem, y0, y1, Tryz.sizeOf42, Tryz.isAgg42]) rfl ⟨qA, kA, hA', qB, kB, rfl, lA, hB', lB, S.pick [0, 1, 2, 3] (by decide) rfl⟩
end Go.Proofs.YthlmcfbadhidbaaGreat
/- Chapter 12: each hit is a distance, and each place is its own hub once. -/
namespace Go.Proofs.YthlmcfbadhidbaaGreat
open Go Go.RowKit
def selfN (l : List (Int × Int)) (v : Int) : Nat := (l.filter fun x => x.1 == v).length
theorem selfN_step {l : List (Int × Int)} {k : Nat} (hk : k < l.length) (v : Int) : selfN (l.take (k + 1)) v = selfN (l.take k) v + if (nth l k).1 = v then 1 else 0 := by
  unfold selfN
  rw [take_succ_nth l k hk, List.filter_append, List.length_append]
  by_cases h : (nth l k).1 = v
  · simp [h]
  · simp [h]
theorem selfN_le (l : List (Int × Int)) (k : Nat) (v : Int) : selfN (l.take k) v ≤ l.length := by
  unfold selfN
  exact Nat.le_trans (List.length_filter_le _ _) (by rw [List.length_take]; omega)
theorem selfN_zero {l : List (Int × Int)} {v : Int} (h : v ∉ l.map (·.1)) : selfN l v = 0 := by
  unfold selfN
  rw [List.length_eq_zero_iff, List.filter_eq_nil_iff]
  intro x hx e
  exact h (List.mem_map.2 ⟨x, hx, by simpa using e⟩)
theorem selfN_one : ∀ {l : List (Int × Int)} {v : Int}, (l.map (·.1)).Nodup → v ∈ l.map (·.1) → selfN l v = 1
  | [], _, _, h => by cases h
  | x :: l, v, hn, hm => by
    rw [List.map_cons, List.nodup_cons] at hn
    rw [List.map_cons, List.mem_cons] at hm
    by_cases e : x.1 = v
    · have := selfN_zero (l := l) (v := v) (e ▸ hn.1)
      unfold selfN at this ⊢
      rw [List.filter_cons_of_pos (by simpa using e), List.length_cons, this]
    · have := selfN_one hn.2 (hm.resolve_left fun h => e h.symm)
      unfold selfN at this ⊢
      rw [List.filter_cons_of_neg (by simpa using e), this]
theorem lab_self {nx : Nat → List Int} {n : Nat} {L : List Int} (hL : OrdP L n) (hn : n ≤ 200) {v : Nat} (hv : v < n) : selfN (labI nx n L n v) v = 1 := by
  have h := right_lab (nx := nx) hL hn hv
  unfold rightB at h
  rw [Bool.and_eq_true, decide_eq_true_eq] at h
  refine selfN_one h.2 ?_
  obtain ⟨i, hi, e⟩ := ord_find hL hv
  have hs := hub_self (nx := nx) hL hi
  rw [e, Int.toNat_natCast] at hs
  exact List.mem_map.2 ⟨_, labI_mem.2 ⟨i, hi, by rw [e, Int.toNat_natCast]; exact hs, rfl⟩, e⟩
section
variable {O T R V : List Int} {n : Nat} (hck : checkR O T R V = true) (hno : O.length = n + 1)
include hck hno
theorem lab_selfs {v : Nat} (hv : v < n) : selfN (nth (labT (rowL R V) n (byL O R n) n) v) v = 1 ∧ selfN (nth (labT (rowL O T) n (byL O R n) n) v) v = 1 := by
  have hL := byL_ord (O := O) (R := R) (n := n) fun v hv => way_rng hck hno hv
  have r := offB_parts (halfB_off (checkR_half hck).2.2.1)
  rw [labT_nth hv, labT_nth hv]
  exact ⟨lab_self hL (by omega) hv, lab_self hL (by omega) hv⟩
theorem lab_hit {v j : Nat} (hv : v < n) (b : Bool) (hj : j < (nth (labT (if b then rowL O T else rowL R V) n (byL O R n) n) v).length) :
    ∃ (u : Nat) (d : Int), nth (nth (labT (if b then rowL O T else rowL R V) n (byL O R n) n) v) j = ((u:Int), d) ∧ u < n ∧ 0 ≤ d ∧ d ≤ 200 ∧ distN (if b then lev (rowL O T) n u v else lev (rowL O T) n v u) = d ∧ distB (if b then lev (rowL O T) n u v else lev (rowL O T) n v u) = true := by
  have hL := byL_ord (O := O) (R := R) (n := n) fun v hv => way_rng hck hno hv
  have hrev : Rev (rowL O T) (rowL R V) n := by have := nxR_rev hck false; rw [hno] at this; exact this
  have r := offB_parts (halfB_off (checkR_half hck).2.2.1)
  have hm := nth_mem hj
  rw [labT_nth hv] at hm ⊢
  have key : ∀ x : Int, 0 ≤ x → distN x = x ∧ distB x = true := fun x hx => by unfold distN distB; rw [if_pos hx]; exact ⟨rfl, by simpa using hx⟩
  cases b with
  | false =>
    simp only [Bool.false_eq_true, if_false] at hm ⊢
    obtain ⟨i, hi, h1, h2⟩ := (labO_mem hrev hL (Nat.le_refl _) hv).1 hm
    have hu := ord_lt hL hi
    have h3 := (hubW_iff.1 h1).1
    have h4 := lev_lt (nx := rowL O T) hv hu
    exact ⟨(nth (byL O R n) i).toNat, _, by rw [h2, ord_int hL hi], hu, h3, by omega, (key _ h3).1, (key _ h3).2⟩
  | true =>
    simp only [if_true] at hm ⊢
    obtain ⟨i, hi, h1, h2⟩ := labI_mem.1 hm
    have hu := ord_lt hL hi
    have h3 := (hubW_iff.1 h1).1
    have h4 := lev_lt (nx := rowL O T) hu hv
    exact ⟨(nth (byL O R n) i).toNat, _, by rw [h2, ord_int hL hi], hu, h3, by omega, (key _ h3).1, (key _ h3).2⟩
end
end Go.Proofs.YthlmcfbadhidbaaGreat
/- Chapter 12: a hit left out. -/
namespace Go.Proofs.YthlmcfbadhidbaaGreat
open Go Go.RowKit
/-- the first k without the one at i -/
def leftK (l : List (Int × Int)) (i k : Nat) : List (Int × Int) := (l.take k).eraseIdx i
theorem leftK_zero (l : List (Int × Int)) (i : Nat) : leftK l i 0 = [] := by simp [leftK]
theorem leftK_same {l : List (Int × Int)} {i : Nat} (hi : i < l.length) : leftK l i (i + 1) = leftK l i i := by
  unfold leftK
  have e1 : (l.take i).length = i := by rw [List.length_take]; omega
  rw [take_succ_nth l i hi, List.eraseIdx_append_of_length_le (by omega), e1, Nat.sub_self, List.eraseIdx_of_length_le (l := l.take i) (by omega)]
  simp
theorem leftK_step {l : List (Int × Int)} {i k : Nat} (hk : k < l.length) (hne : k ≠ i) : leftK l i (k + 1) = leftK l i k ++ [nth l k] := by
  unfold leftK
  rw [take_succ_nth l k hk]
  rcases Nat.lt_or_ge k i with h | h
  · rw [List.eraseIdx_of_length_le (by rw [List.length_append, List.length_take]; simp; omega), List.eraseIdx_of_length_le (by rw [List.length_take]; omega)]
  · rw [List.eraseIdx_append_of_lt_length (by rw [List.length_take]; omega)]
theorem leftK_len (l : List (Int × Int)) (i k : Nat) : (leftK l i k).length ≤ k := by
  unfold leftK
  exact Nat.le_trans (List.length_eraseIdx_le ..) (by rw [List.length_take]; omega)
theorem leftK_all (l : List (Int × Int)) (i : Nat) : leftK l i l.length = l.eraseIdx i := by unfold leftK; rw [List.take_length]
theorem nth_setL {α : Type} [Inhabited α] (T : List α) {i : Nat} (j : Nat) (x : α) (hi : i < T.length) : nth (T.set i x) j = if i = j then x else nth T j := by
  unfold nth
  rw [List.getD_eq_getElem?_getD, List.getD_eq_getElem?_getD, List.getElem?_set]
  by_cases e : i = j
  · subst e; simp [hi]
  · simp [e]
/-- how many hits are there when one row is another one -/
theorem hitsN_set {T : SrT} {v : Nat} {l : List (Int × Int)} (hv : v < T.length) : ∀ k, k ≤ T.length → hitsN (T.set v l) k + (if v < k then (nth T v).length else 0) = hitsN T k + (if v < k then l.length else 0)
  | 0, _ => by simp [hitsN]
  | k + 1, hk => by
    have ih := hitsN_set (l := l) hv k (by omega)
    rw [hitsN_step (T := T.set v l) (by rw [List.length_set]; omega), hitsN_step (by omega), nth_setL _ _ _ hv]
    by_cases e : v = k
    · subst e
      rw [if_neg (Nat.lt_irrefl _), if_neg (Nat.lt_irrefl _)] at ih
      rw [if_pos rfl, if_pos (by omega), if_pos (by omega)]
      omega
    · rw [if_neg e]
      by_cases h : v < k
      · rw [if_pos h, if_pos h] at ih
        rw [if_pos (by omega), if_pos (by omega)]; omega
      · rw [if_neg h, if_neg h] at ih
        rw [if_neg (by omega), if_neg (by omega)]; omega
theorem lsize_less {A B : SrT} {v i : Nat} (hv : v < B.length) (hi : i < (nth B v).length) : lsize A (B.set v ((nth B v).eraseIdx i)) + 1 = lsize A B := by
  have h := hitsN_set (l := (nth B v).eraseIdx i) hv B.length (Nat.le_refl _)
  rw [if_pos hv, if_pos hv, List.length_eraseIdx_of_lt hi] at h
  unfold lsize
  rw [List.length_set]
  omega
theorem right_erase {l : List (Int × Int)} {n : Int} (i : Nat) (h : rightB l n = true) : rightB (l.eraseIdx i) n = true := by
  unfold rightB at h ⊢
  rw [Bool.and_eq_true, List.all_eq_true, decide_eq_true_eq] at h ⊢
  have hs : (l.eraseIdx i).Sublist l := List.eraseIdx_sublist ..
  exact ⟨fun x hx => h.1 x (hs.subset hx), (hs.map _).nodup h.2⟩
theorem lchk_set {A B : SrT} {v i : Nat} (hv : v < B.length) (h : lchkB A B = true) : lchkB A (B.set v ((nth B v).eraseIdx i)) = true := by
  obtain ⟨⟨h1, h2, h3⟩, h4⟩ := lchk_parts h
  refine lchk_yes ⟨h1, h2, by rw [List.length_set]; exact h3⟩ fun u hu => ?_
  obtain ⟨h5, h6⟩ := h4 u hu
  rw [h5, nth_setL _ _ _ hv]
  by_cases e : v = u
  · subst e; rw [if_pos rfl, right_erase i h6]; rfl
  · rw [if_neg e, h6]; rfl
section
variable {O T R V : List Int} {n : Nat} (hck : checkR O T R V = true) (hno : O.length = n + 1)
include hck hno
/-- what is asked without a hit: something further, or nothing -/
theorem lab_less {v i u : Nat} {d : Int} (hv : v < n) (hi : i < (nth (labT (rowL O T) n (byL O R n) n) v).length) (hx : nth (nth (labT (rowL O T) n (byL O R n) n) v) i = ((u : Int), d)) (hu : u < n) :
    queryC (labT (rowL R V) n (byL O R n) n) ((labT (rowL O T) n (byL O R n) n).set v ((nth (labT (rowL O T) n (byL O R n) n) v).eraseIdx i)) u v = 0 ∧
    (queryO (labT (rowL R V) n (byL O R n) n) ((labT (rowL O T) n (byL O R n) n).set v ((nth (labT (rowL O T) n (byL O R n) n) v).eraseIdx i)) u v = true →
      distN (lev (rowL O T) n u v) < queryN (labT (rowL R V) n (byL O R n) n) ((labT (rowL O T) n (byL O R n) n).set v ((nth (labT (rowL O T) n (byL O R n) n) v).eraseIdx i)) u v) := by
  have hL := byL_ord (O := O) (R := R) (n := n) fun v hv => way_rng hck hno hv
  have hrev : Rev (rowL O T) (rowL R V) n := by have := nxR_rev hck false; rw [hno] at this; exact this
  have hlen := labT_len (rowL O T) n (byL O R n) n
  have hlenA := labT_len (rowL R V) n (byL O R n) n
  have hck2 := lchk_set (A := labT (rowL R V) n (byL O R n) n) (v := v) (i := i) (by rw [hlen]; exact hv) (lab_check hck hno)
  have hq : queryB (labT (rowL R V) n (byL O R n) n) ((labT (rowL O T) n (byL O R n) n).set v ((nth (labT (rowL O T) n (byL O R n) n) v).eraseIdx i)) u v = true := by
    unfold queryB
    rw [hck2, hlenA]
    simp; omega
  unfold queryC queryO queryN
  rw [if_pos hq, if_pos hq, if_pos hq, Int.toNat_natCast, Int.toNat_natCast, nth_setL _ _ _ (by rw [hlen]; exact hv), if_pos rfl]
  refine ⟨rfl, fun h => ?_⟩
  have hok := leastV_ok (nth (labT (rowL R V) n (byL O R n) n) u) ((nth (labT (rowL O T) n (byL O R n) n) v).eraseIdx i)
  have hb := (hok.2 h).1
  have hmem := nth_mem hi
  rw [labT_nth hu, labT_nth hv] at hb
  rw [labT_nth hv] at hi hx hmem
  have hlev : 0 ≤ lev (rowL O T) n u v := by
    rw [hx] at hmem
    obtain ⟨j, hj, h1, h2⟩ := labI_mem.1 hmem
    have h3 := (hubW_iff.1 h1).1
    have e : (nth (byL O R n) j).toNat = u := by have := congrArg Prod.fst h2; simp only at this; omega
    rw [e] at h3
    exact h3
  have := label_needed hrev hL hv hmem (y := (leastV (labI (rowL R V) n (byL O R n) n u) ((labI (rowL O T) n (byL O R n) n v).eraseIdx i)).1) (at' := i) (by rw [hx]; exact hb) hi rfl
  rw [hx] at this
  simp only [Int.toNat_natCast] at this
  rw [labT_nth hu, labT_nth hv]
  unfold distN
  rw [if_pos hlev]
  exact this
end
set_option maxRecDepth 100000 in
set_option maxHeartbeats 4000000 in
theorem WithoutG (p : Option Addr) (n c : Nat) (l : List (Int × Int)) (i : Nat) (w : World) (hl : Rd w 2 p n (encE l)) (hn : n ≤ 1000000) (hi : i < n) :
    Calls Tryz.prog 38 #[.slice p n c, .int .i64 i] w fun e w' => ∃ q c', e = .returned (.slice q (l.eraseIdx i).length c') ∧ Sep w w' [.own 54 2 q (l.eraseIdx i).length c' (encE (l.eraseIdx i))] := by
  obtain ⟨i0, hi0, hz0, hz1, hz2⟩ := info_parts infHit
  have L1 := Lib.hid hl.nE
  have p1 := hl.ptr
  have n1 := hl.small
  have HL := Lib.hid hl; clear hl
  have S0 := Lib.hid ((Sep.start w).nilrow 54 2)
  go_enter Tryz.func38, Tryz.ntmps38
  go_wp2
  go_loopw [5, 6] (fun v5 v6 wr => ∃ (k : Nat) (q : Option Addr) (c' : Nat), k ≤ n ∧ v6 = .int .i64 k ∧ v5 = .slice q (leftK l i k).length c' ∧ Sep w wr [.own 54 2 q (leftK l i k).length c' (encE (leftK l i k))]) (fun _ v6 _ => n - (intOf v6).toNat)
  case atStart => exact ⟨0, none, 0, Nat.zero_le _, rfl, by rw [leftK_zero]; rfl, by rw [leftK_zero]; exact S0.out⟩
  case round =>
    clear S0
    obtain ⟨k, q, c', hk, rfl, rfl, S⟩ := hrel
    have hln := leftK_len l i k
    by_cases hlt : k < n
    · have g1 := S.ext.cell (HL.out.cE hlt)
      have g2 := S.ext.cell (HL.out.cE2 hlt)
      have d1 : (0:Int) ≤ k := by omega
      have d2 : (k:Int) < n := by omega
      have SH := Lib.hid S; clear S
      by_cases he : k = i
      · have f1 : ((k:Int) != (i:Int)) = false := by simp; omega
        have HT : Hid (leftK l i (k + 1) = leftK l i k) := by subst he; exact leftK_same (by rw [← L1.out]; exact hlt)
        clear he
        generalize leftK l i k = lo at *
        go_wp2
        go_roundw
        case rel => exact ⟨k + 1, q, c', by omega, by go_num, by rw [HT.out], by rw [HT.out]; exact SH.out⟩
        case measure => simp [intOf]; omega
      · have f1 : ((k:Int) != (i:Int)) = true := by simp; omega
        have HT := Lib.hid (leftK_step (l := l) (i := i) (by rw [← L1.out]; exact hlt) he)
        clear he
        generalize leftK l i k = lo at *
        generalize nth l k = x at *
        go_wp2_with (at_builtin; go_must (refine wpList_append_sep rfl _ _ _ rfl 54 i0 _ 2 16 Tryz.underlying52 hi0 hz0 hz1 hz2 rfl (by omega) (SH.out.junk _) 0 q lo.length c' _ rfl rfl _ 1 1 _ rfl (Rd.one2 _ _ _ _) (one_encE _) (by omega) (by omega) ?_; intro u' e' w4 S' hsz; have S5 := Lib.hid S'; clear S' hsz))
        go_roundw
        case rel => exact ⟨k + 1, u', e', by omega, by go_num, by rw [HT.out, List.length_append]; rfl, by rw [HT.out, List.length_append, encE_append]; exact S5.out⟩
        case measure => simp [intOf]; omega
    · obtain rfl : k = n := by omega
      have HT : Hid (leftK l i k = l.eraseIdx i) := by unfold Hid; rw [L1.out]; exact leftK_all l i
      rw [HT.out] at S ⊢
      have SH := Lib.hid S; clear S
      go_wp2
      go_ret
      exact ⟨q, c', rfl, SH.out⟩
/-- rows, one of which is another one -/
theorem RdT.of_set {w0 w : World} {Γ : List Pc} {qB : Option Addr} {n kB v m c : Nat} {hB : List Hd} {B : SrT} {q : Option Addr} {l : List (Int × Int)} (S : Sep w0 w Γ) (a b d : Nat)
    (ha : Γ[a]? = some (.own 54 2 q m c (encE l))) (hb : Γ[b]? = some (.many 54 2 (rowsT B hB))) (hd : Γ[d]? = some (.own 52 1 qB n kB ((encH hB).set v (.slice q m c)))) (hlB : hB.length = n) (hBn : B.length = n) (hv : v < n) :
    RdT w qB n (hB.set v ⟨q, m, c⟩) (B.set v l) := by
  rw [encH_set] at hd
  have ho := S.own d hd
  refine ⟨Rd.of_own ho (own_small ho), by rw [List.length_set]; exact hBn, fun j hj => ?_⟩
  rw [nth_setL _ _ _ (by omega), nth_setL _ _ _ (by omega)]
  by_cases e : v = j
  · rw [if_pos e, if_pos e]
    have h1 := S.own a ha
    exact Rd.of_own h1 (own_small h1)
  · rw [if_neg e, if_neg e]
    have h1 := S.manyAt b hb _ (rowsT_at (by omega) (show j < B.length by omega))
    exact Rd.of_own h1 (own_small h1)
end Go.Proofs.YthlmcfbadhidbaaGreat
/- The law LabelNeeded: no hit can be left out. -/
namespace Go.Proofs.YthlmcfbadhidbaaGreat
open Go Go.RowKit
def LeftQ (b m : Nat) (l : List (Int × Int)) (i : Nat) (v : Value) (W : World) : Prop :=
  i = 9 → ∃ q d, v = .slice q m d ∧ W.ownsRow b 54 2 (.slice q m d) m (encE l)
theorem LeftQ_mono {b m : Nat} {l : List (Int × Int)} : ∀ i v W W', Ext W W' → LeftQ b m l i v W → LeftQ b m l i v W' := by
  intro i v W W' he h hi
  obtain ⟨q, c, h1, h2⟩ := h hi
  exact ⟨q, c, h1, he.own h2⟩
set_option maxRecDepth 100000 in
set_option maxHeartbeats 8000000 in
theorem lawNeeded12 (po : Option Addr) (no co : Nat) (O : List Int) (pt : Option Addr) (nt ct : Nat) (T : List Int) (pr : Option Addr) (nr cr : Nat) (R : List Int) (pv : Option Addr) (nv cv : Nat) (V : List Int) (f t : Int) (w : World) (hO : Rd w 1 po no (encI O)) (hT : Rd w 1 pt nt (encI T)) (hR : Rd w 1 pr nr (encI R)) (hV : Rd w 1 pv nv (encI V)) (hct : nt ≤ ct) (hcv : nv ≤ cv) : Calls Tryz.prog 6 #[.agg #[.slice po no co, .slice pt nt ct, .slice pr nr cr, .slice pv nv cv], .int .i64 f, .int .i64 t] w fun e w' => e = .returned (.bool true) ∧ Ext w w' := by
  have HBig := Lib.hid (fun W1 (h : Ext w W1) => Big04 po no co O pt nt ct T pr nr cr R pv nv cv V W1 (hO.ext h) (hT.ext h) (hR.ext h) (hV.ext h))
  have S0 := Lib.hid ((Sep.start w).al #[.slice po no co, .slice pt nt ct, .slice pr nr cr, .slice pv nv cv] 24 w.heap.size rfl)
  have lO := hO.nI
  have pz := hO.small
  cases hck : checkR O T R V with
  | false =>
    have HBu := Lib.hid (fun W1 (h : Ext w W1) => BuildG_no po no co O pt nt ct T pr nr cr R pv nv cv V W1 (hO.ext h) (hT.ext h) (hR.ext h) (hV.ext h) hct hcv hck)
    clear hO hT hR hV hct hcv lO
    cases hbig : bigR O T R V with
    | true =>
      rw [hbig] at HBig
      clear hbig
      go_enter Tryz.func6, Tryz.ntmps6
      go_wp2_with (first | (go_at_call 28; have _t := S2; go_must (refine (Labels12 _).mono ?_; rintro e w3 ⟨rfl, hb⟩; have S3 := Lib.hid (S2.out.call hb); clear hb)) | (go_at_call 10; have _t := S1; go_must (refine (HBig.out _ S1.out.ext).mono ?_; rintro e w2 ⟨rfl, hb⟩; have Z2 := Lib.hid hb; have S2 := Lib.hid (S1.out.call hb); have b0 := (S2.out.blk 0 rfl).cell 0; have b1 := (S2.out.blk 0 rfl).cell 1; have bz := (S2.out.blk 0 rfl).lt; have y0 := (S2.out.blk 1 rfl).cell 0; have y1 := (S2.out.blk 1 rfl).cell 1; have y2 := (S2.out.blk 1 rfl).cell 2; have y3 := (S2.out.blk 1 rfl).cell 3; have yz := (S2.out.blk 1 rfl).lt; clear hb)) | (go_at_call 26; go_must (refine (HBu.out _ S0.out.ext).mono ?_; rintro e w1 ⟨rfl, hb⟩; have S1 := Lib.hid ((S0.out.call hb).al #[.slice none 0 0, .slice none 0 0] 42 w1.heap.size rfl); have a0 := (S1.out.blk 0 rfl).cell 0; have a1 := (S1.out.blk 0 rfl).cell 1; have az := (S1.out.blk 0 rfl).lt; have x0 := (S1.out.blk 1 rfl).cell 0; have x1 := (S1.out.blk 1 rfl).cell 1; have x2 := (S1.out.blk 1 rfl).cell 2; have x3 := (S1.out.blk 1 rfl).cell 3; have xz := (S1.out.blk 1 rfl).lt; clear hb)))
      go_ret
      exact ⟨rfl, S3.out.ext⟩
    | false =>
      rw [hbig] at HBig
      clear hbig
      by_cases hn : (30:Int) < no
      · have c1 : decide ((30:Int) < no) = true := by simpa using hn
        clear hn
        go_enter Tryz.func6, Tryz.ntmps6
        go_wp2_with (first | (go_at_call 28; have _t := S2; go_must (refine (Labels12 _).mono ?_; rintro e w3 ⟨rfl, hb⟩; have S3 := Lib.hid (S2.out.call hb); clear hb)) | (go_at_call 10; have _t := S1; go_must (refine (HBig.out _ S1.out.ext).mono ?_; rintro e w2 ⟨rfl, hb⟩; have Z2 := Lib.hid hb; have S2 := Lib.hid (S1.out.call hb); have b0 := (S2.out.blk 0 rfl).cell 0; have b1 := (S2.out.blk 0 rfl).cell 1; have bz := (S2.out.blk 0 rfl).lt; have y0 := (S2.out.blk 1 rfl).cell 0; have y1 := (S2.out.blk 1 rfl).cell 1; have y2 := (S2.out.blk 1 rfl).cell 2; have y3 := (S2.out.blk 1 rfl).cell 3; have yz := (S2.out.blk 1 rfl).lt; clear hb)) | (go_at_call 26; go_must (refine (HBu.out _ S0.out.ext).mono ?_; rintro e w1 ⟨rfl, hb⟩; have S1 := Lib.hid ((S0.out.call hb).al #[.slice none 0 0, .slice none 0 0] 42 w1.heap.size rfl); have a0 := (S1.out.blk 0 rfl).cell 0; have a1 := (S1.out.blk 0 rfl).cell 1; have az := (S1.out.blk 0 rfl).lt; have x0 := (S1.out.blk 1 rfl).cell 0; have x1 := (S1.out.blk 1 rfl).cell 1; have x2 := (S1.out.blk 1 rfl).cell 2; have x3 := (S1.out.blk 1 rfl).cell 3; have xz := (S1.out.blk 1 rfl).lt; clear hb)))
        go_ret
        exact ⟨rfl, S3.out.ext⟩
      · have c1 : decide ((30:Int) < no) = false := by simpa using hn
        clear hn
        go_enter Tryz.func6, Tryz.ntmps6
        go_wp2_with (first | (go_at_call 28; have _t := S2; go_must (refine (Labels12 _).mono ?_; rintro e w3 ⟨rfl, hb⟩; have S3 := Lib.hid (S2.out.call hb); clear hb)) | (go_at_call 10; have _t := S1; go_must (refine (HBig.out _ S1.out.ext).mono ?_; rintro e w2 ⟨rfl, hb⟩; have Z2 := Lib.hid hb; have S2 := Lib.hid (S1.out.call hb); have b0 := (S2.out.blk 0 rfl).cell 0; have b1 := (S2.out.blk 0 rfl).cell 1; have bz := (S2.out.blk 0 rfl).lt; have y0 := (S2.out.blk 1 rfl).cell 0; have y1 := (S2.out.blk 1 rfl).cell 1; have y2 := (S2.out.blk 1 rfl).cell 2; have y3 := (S2.out.blk 1 rfl).cell 3; have yz := (S2.out.blk 1 rfl).lt; clear hb)) | (go_at_call 26; go_must (refine (HBu.out _ S0.out.ext).mono ?_; rintro e w1 ⟨rfl, hb⟩; have S1 := Lib.hid ((S0.out.call hb).al #[.slice none 0 0, .slice none 0 0] 42 w1.heap.size rfl); have a0 := (S1.out.blk 0 rfl).cell 0; have a1 := (S1.out.blk 0 rfl).cell 1; have az := (S1.out.blk 0 rfl).lt; have x0 := (S1.out.blk 1 rfl).cell 0; have x1 := (S1.out.blk 1 rfl).cell 1; have x2 := (S1.out.blk 1 rfl).cell 2; have x3 := (S1.out.blk 1 rfl).cell 3; have xz := (S1.out.blk 1 rfl).lt; clear hb)))
        go_ret
        exact ⟨rfl, S3.out.ext⟩
  | true =>
    have r := offB_parts (halfB_off (checkR_half hck).2.2.1)
    obtain ⟨n, hno⟩ : ∃ n, O.length = n + 1 := ⟨O.length - 1, by omega⟩
    have HBu := Lib.hid (fun W1 (h : Ext w W1) => BuildRd po no co O pt nt ct T pr nr cr R pv nv cv V n W1 (hO.ext h) (hT.ext h) (hR.ext h) (hV.ext h) hct hcv hck hno)
    have hn1 : 1 ≤ n ∧ n ≤ 200 ∧ no = n + 1 := by omega
    obtain ⟨g1, g2, rfl⟩ := hn1
    have HLS : Hid (∀ v i u : Nat, ∀ d : Int, v < n → i < (nth (labT (rowL O T) n (byL O R n) n) v).length → nth (nth (labT (rowL O T) n (byL O R n) n) v) i = ((u : Int), d) → u < n → _) := fun v i u d hv hi hx hu => lab_less hck hno hv hi hx hu
    have HHI := Lib.hid (fun (v j : Nat) (hv : v < n) => lab_hit hck hno hv (j := j) true)
    have HQU := Lib.hid (fun (a b : Nat) (ha : a < n) (hb : b < n) => lab_query hck hno ha hb)
    have HLN : Hid (∀ v, v < n → (nth (labT (rowL R V) n (byL O R n) n) v).length ≤ 200 ∧ (nth (labT (rowL O T) n (byL O R n) n) v).length ≤ 200) := fun v hv => by
      rw [labT_nth hv, labT_nth hv]
      exact ⟨Nat.le_trans (labI_len ..) g2, Nat.le_trans (labI_len ..) g2⟩
    have HSZ := Lib.hid (lsize_lab (na := rowL R V) (nb := rowL O T) (L := byL O R n) g2)
    have LA := Lib.hid (labT_len (rowL R V) n (byL O R n) n)
    have LB := Lib.hid (labT_len (rowL O T) n (byL O R n) n)
    simp only [if_true] at HHI
    clear hO hT hR hV hct hcv lO r hck hno
    generalize labT (rowL R V) n (byL O R n) n = A at *
    generalize labT (rowL O T) n (byL O R n) n = B at *
    generalize lev (rowL O T) n = D at *
    cases hbig : bigR O T R V with
    | true =>
      rw [hbig] at HBig
      clear hbig
      go_enter Tryz.func6, Tryz.ntmps6
      go_wp2_with (first | (go_at_call 28; have _t := S2; go_must (refine (Labels12 _).mono ?_; rintro e w3 ⟨rfl, hb⟩; have S3 := Lib.hid (S2.out.call hb); clear hb)) | (go_at_call 10; have _t := S1; go_must (refine (HBig.out _ S1.out.ext).mono ?_; rintro e w2 ⟨rfl, hb⟩; have Z2 := Lib.hid hb; have S2 := Lib.hid (S1.out.call hb); have b0 := (S2.out.blk 0 rfl).cell 0; have b1 := (S2.out.blk 0 rfl).cell 1; have bz := (S2.out.blk 0 rfl).lt; have y0 := (S2.out.blk 1 rfl).cell 0; have y1 := (S2.out.blk 1 rfl).cell 1; have y2 := (S2.out.blk 1 rfl).cell 2; have y3 := (S2.out.blk 1 rfl).cell 3; have yz := (S2.out.blk 1 rfl).lt; clear hb)) | (go_at_call 26; go_must (refine (HBu.out _ S0.out.ext).mono ?_; rintro e w1 ⟨qO, cO, qI, cI, HO, HI, rfl, ra, rb, hb⟩; have RA := Lib.hid (ra.ext (Ext.alloc (Below.refl _ _) (.cells #[.slice qO n cO, .slice qI n cI] 42))); have RB := Lib.hid (rb.ext (Ext.alloc (Below.refl _ _) (.cells #[.slice qO n cO, .slice qI n cI] 42))); have S1 := Lib.hid ((S0.out.call hb).al #[.slice qO n cO, .slice qI n cI] 42 w1.heap.size rfl); have a0 := (S1.out.blk 0 rfl).cell 0; have a1 := (S1.out.blk 0 rfl).cell 1; have az := (S1.out.blk 0 rfl).lt; have x0 := (S1.out.blk 1 rfl).cell 0; have x1 := (S1.out.blk 1 rfl).cell 1; have x2 := (S1.out.blk 1 rfl).cell 2; have x3 := (S1.out.blk 1 rfl).cell 3; have xz := (S1.out.blk 1 rfl).lt; clear hb ra rb)))
      go_ret
      exact ⟨rfl, S3.out.ext⟩
    | false =>
      rw [hbig] at HBig
      clear hbig
      by_cases hn : (30:Int) < (n:Int) + 1
      · have c1 : decide ((30:Int) < (n:Int) + 1) = true := by simpa using hn
        clear hn
        go_enter Tryz.func6, Tryz.ntmps6
        go_wp2_with (first | (go_at_call 28; have _t := S2; go_must (refine (Labels12 _).mono ?_; rintro e w3 ⟨rfl, hb⟩; have S3 := Lib.hid (S2.out.call hb); clear hb)) | (go_at_call 10; have _t := S1; go_must (refine (HBig.out _ S1.out.ext).mono ?_; rintro e w2 ⟨rfl, hb⟩; have Z2 := Lib.hid hb; have S2 := Lib.hid (S1.out.call hb); have b0 := (S2.out.blk 0 rfl).cell 0; have b1 := (S2.out.blk 0 rfl).cell 1; have bz := (S2.out.blk 0 rfl).lt; have y0 := (S2.out.blk 1 rfl).cell 0; have y1 := (S2.out.blk 1 rfl).cell 1; have y2 := (S2.out.blk 1 rfl).cell 2; have y3 := (S2.out.blk 1 rfl).cell 3; have yz := (S2.out.blk 1 rfl).lt; clear hb)) | (go_at_call 26; go_must (refine (HBu.out _ S0.out.ext).mono ?_; rintro e w1 ⟨qO, cO, qI, cI, HO, HI, rfl, ra, rb, hb⟩; have RA := Lib.hid (ra.ext (Ext.alloc (Below.refl _ _) (.cells #[.slice qO n cO, .slice qI n cI] 42))); have RB := Lib.hid (rb.ext (Ext.alloc (Below.refl _ _) (.cells #[.slice qO n cO, .slice qI n cI] 42))); have S1 := Lib.hid ((S0.out.call hb).al #[.slice qO n cO, .slice qI n cI] 42 w1.heap.size rfl); have a0 := (S1.out.blk 0 rfl).cell 0; have a1 := (S1.out.blk 0 rfl).cell 1; have az := (S1.out.blk 0 rfl).lt; have x0 := (S1.out.blk 1 rfl).cell 0; have x1 := (S1.out.blk 1 rfl).cell 1; have x2 := (S1.out.blk 1 rfl).cell 2; have x3 := (S1.out.blk 1 rfl).cell 3; have xz := (S1.out.blk 1 rfl).lt; clear hb ra rb)))
        go_ret
        exact ⟨rfl, S3.out.ext⟩
      · have c1 : decide ((30:Int) < (n:Int) + 1) = false := by simpa using hn
        clear hn
        by_cases h1 : f < 0
        · have c2 : decide (f < 0) = true := by simpa using h1
          clear h1
          go_enter Tryz.func6, Tryz.ntmps6
          go_wp2_with (first | (go_at_call 28; have _t := S2; go_must (refine (Labels12 _).mono ?_; rintro e w3 ⟨rfl, hb⟩; have S3 := Lib.hid (S2.out.call hb); clear hb)) | (go_at_call 10; have _t := S1; go_must (refine (HBig.out _ S1.out.ext).mono ?_; rintro e w2 ⟨rfl, hb⟩; have Z2 := Lib.hid hb; have S2 := Lib.hid (S1.out.call hb); have b0 := (S2.out.blk 0 rfl).cell 0; have b1 := (S2.out.blk 0 rfl).cell 1; have bz := (S2.out.blk 0 rfl).lt; have y0 := (S2.out.blk 1 rfl).cell 0; have y1 := (S2.out.blk 1 rfl).cell 1; have y2 := (S2.out.blk 1 rfl).cell 2; have y3 := (S2.out.blk 1 rfl).cell 3; have yz := (S2.out.blk 1 rfl).lt; clear hb)) | (go_at_call 26; go_must (refine (HBu.out _ S0.out.ext).mono ?_; rintro e w1 ⟨qO, cO, qI, cI, HO, HI, rfl, ra, rb, hb⟩; have RA := Lib.hid (ra.ext (Ext.alloc (Below.refl _ _) (.cells #[.slice qO n cO, .slice qI n cI] 42))); have RB := Lib.hid (rb.ext (Ext.alloc (Below.refl _ _) (.cells #[.slice qO n cO, .slice qI n cI] 42))); have S1 := Lib.hid ((S0.out.call hb).al #[.slice qO n cO, .slice qI n cI] 42 w1.heap.size rfl); have a0 := (S1.out.blk 0 rfl).cell 0; have a1 := (S1.out.blk 0 rfl).cell 1; have az := (S1.out.blk 0 rfl).lt; have x0 := (S1.out.blk 1 rfl).cell 0; have x1 := (S1.out.blk 1 rfl).cell 1; have x2 := (S1.out.blk 1 rfl).cell 2; have x3 := (S1.out.blk 1 rfl).cell 3; have xz := (S1.out.blk 1 rfl).lt; clear hb ra rb)))
          go_ret
          exact ⟨rfl, S3.out.ext⟩
        · have c2 : decide (f < 0) = false := by simpa using h1
          by_cases h2 : (n:Int) ≤ f
          · have c3 : decide ((n:Int) ≤ f) = true := by simpa using h2
            clear h1 h2
            go_enter Tryz.func6, Tryz.ntmps6
            go_wp2_with (first | (go_at_call 28; have _t := S2; go_must (refine (Labels12 _).mono ?_; rintro e w3 ⟨rfl, hb⟩; have S3 := Lib.hid (S2.out.call hb); clear hb)) | (go_at_call 10; have _t := S1; go_must (refine (HBig.out _ S1.out.ext).mono ?_; rintro e w2 ⟨rfl, hb⟩; have Z2 := Lib.hid hb; have S2 := Lib.hid (S1.out.call hb); have b0 := (S2.out.blk 0 rfl).cell 0; have b1 := (S2.out.blk 0 rfl).cell 1; have bz := (S2.out.blk 0 rfl).lt; have y0 := (S2.out.blk 1 rfl).cell 0; have y1 := (S2.out.blk 1 rfl).cell 1; have y2 := (S2.out.blk 1 rfl).cell 2; have y3 := (S2.out.blk 1 rfl).cell 3; have yz := (S2.out.blk 1 rfl).lt; clear hb)) | (go_at_call 26; go_must (refine (HBu.out _ S0.out.ext).mono ?_; rintro e w1 ⟨qO, cO, qI, cI, HO, HI, rfl, ra, rb, hb⟩; have RA := Lib.hid (ra.ext (Ext.alloc (Below.refl _ _) (.cells #[.slice qO n cO, .slice qI n cI] 42))); have RB := Lib.hid (rb.ext (Ext.alloc (Below.refl _ _) (.cells #[.slice qO n cO, .slice qI n cI] 42))); have S1 := Lib.hid ((S0.out.call hb).al #[.slice qO n cO, .slice qI n cI] 42 w1.heap.size rfl); have a0 := (S1.out.blk 0 rfl).cell 0; have a1 := (S1.out.blk 0 rfl).cell 1; have az := (S1.out.blk 0 rfl).lt; have x0 := (S1.out.blk 1 rfl).cell 0; have x1 := (S1.out.blk 1 rfl).cell 1; have x2 := (S1.out.blk 1 rfl).cell 2; have x3 := (S1.out.blk 1 rfl).cell 3; have xz := (S1.out.blk 1 rfl).lt; clear hb ra rb)))
            go_ret
            exact ⟨rfl, S3.out.ext⟩
          · have c3 : decide ((n:Int) ≤ f) = false := by simpa using h2
            by_cases h3 : t < 0
            · have c4 : decide (t < 0) = true := by simpa using h3
              clear h1 h2 h3
              go_enter Tryz.func6, Tryz.ntmps6
              go_wp2_with (first | (go_at_call 28; have _t := S2; go_must (refine (Labels12 _).mono ?_; rintro e w3 ⟨rfl, hb⟩; have S3 := Lib.hid (S2.out.call hb); clear hb)) | (go_at_call 10; have _t := S1; go_must (refine (HBig.out _ S1.out.ext).mono ?_; rintro e w2 ⟨rfl, hb⟩; have Z2 := Lib.hid hb; have S2 := Lib.hid (S1.out.call hb); have b0 := (S2.out.blk 0 rfl).cell 0; have b1 := (S2.out.blk 0 rfl).cell 1; have bz := (S2.out.blk 0 rfl).lt; have y0 := (S2.out.blk 1 rfl).cell 0; have y1 := (S2.out.blk 1 rfl).cell 1; have y2 := (S2.out.blk 1 rfl).cell 2; have y3 := (S2.out.blk 1 rfl).cell 3; have yz := (S2.out.blk 1 rfl).lt; clear hb)) | (go_at_call 26; go_must (refine (HBu.out _ S0.out.ext).mono ?_; rintro e w1 ⟨qO, cO, qI, cI, HO, HI, rfl, ra, rb, hb⟩; have RA := Lib.hid (ra.ext (Ext.alloc (Below.refl _ _) (.cells #[.slice qO n cO, .slice qI n cI] 42))); have RB := Lib.hid (rb.ext (Ext.alloc (Below.refl _ _) (.cells #[.slice qO n cO, .slice qI n cI] 42))); have S1 := Lib.hid ((S0.out.call hb).al #[.slice qO n cO, .slice qI n cI] 42 w1.heap.size rfl); have a0 := (S1.out.blk 0 rfl).cell 0; have a1 := (S1.out.blk 0 rfl).cell 1; have az := (S1.out.blk 0 rfl).lt; have x0 := (S1.out.blk 1 rfl).cell 0; have x1 := (S1.out.blk 1 rfl).cell 1; have x2 := (S1.out.blk 1 rfl).cell 2; have x3 := (S1.out.blk 1 rfl).cell 3; have xz := (S1.out.blk 1 rfl).lt; clear hb ra rb)))
              go_ret
              exact ⟨rfl, S3.out.ext⟩
            · have c4 : decide (t < 0) = false := by simpa using h3
              obtain ⟨v, rfl⟩ : ∃ v : Nat, f = v := ⟨f.toNat, by omega⟩
              obtain ⟨i, rfl⟩ : ∃ i : Nat, t = i := ⟨t.toNat, by omega⟩
              have hv : v < n := by omega
              have b1 : (0:Int) ≤ v := by omega
              have b2 : (v:Int) < n := by omega
              have b3 : (0:Int) ≤ i := by omega
              have c3n : decide (n ≤ v) = false := by simp; omega
              clear h1 h2 h3
              by_cases h4 : (nth B v).length ≤ i
              · have c5 : decide (((nth B v).length : Int) ≤ i) = true := by simp; omega
                have c5n : decide ((nth B v).length ≤ i) = true := by simp; omega
                go_enter Tryz.func6, Tryz.ntmps6
                go_wp2_with (first | (go_at_call 28; have _t := S2; go_must (refine (Labels12 _).mono ?_; rintro e w3 ⟨rfl, hb⟩; have S3 := Lib.hid (S2.out.call hb); clear hb)) | (go_at_call 10; have _t := S1; go_must (refine (HBig.out _ S1.out.ext).mono ?_; rintro e w2 ⟨rfl, hb⟩; have S2 := Lib.hid (S1.out.call hb); have gB := (RB.out.ext hb).row.cH hv; have pB := RB.out.row.ptr; rw [((RB.out.ext hb).each v hv).nE] at gB; have b0 := (S2.out.blk 0 rfl).cell 0; have b1 := (S2.out.blk 0 rfl).cell 1; have bz := (S2.out.blk 0 rfl).lt; have y0 := (S2.out.blk 1 rfl).cell 0; have y1 := (S2.out.blk 1 rfl).cell 1; have y2 := (S2.out.blk 1 rfl).cell 2; have y3 := (S2.out.blk 1 rfl).cell 3; have yz := (S2.out.blk 1 rfl).lt; clear hb)) | (go_at_call 26; go_must (refine (HBu.out _ S0.out.ext).mono ?_; rintro e w1 ⟨qO, cO, qI, cI, HO, HI, rfl, ra, rb, hb⟩; have RA := Lib.hid (ra.ext (Ext.alloc (Below.refl _ _) (.cells #[.slice qO n cO, .slice qI n cI] 42))); have RB := Lib.hid (rb.ext (Ext.alloc (Below.refl _ _) (.cells #[.slice qO n cO, .slice qI n cI] 42))); have S1 := Lib.hid ((S0.out.call hb).al #[.slice qO n cO, .slice qI n cI] 42 w1.heap.size rfl); have a0 := (S1.out.blk 0 rfl).cell 0; have a1 := (S1.out.blk 0 rfl).cell 1; have az := (S1.out.blk 0 rfl).lt; have x0 := (S1.out.blk 1 rfl).cell 0; have x1 := (S1.out.blk 1 rfl).cell 1; have x2 := (S1.out.blk 1 rfl).cell 2; have x3 := (S1.out.blk 1 rfl).cell 3; have xz := (S1.out.blk 1 rfl).lt; clear hb ra rb)))
                go_ret
                exact ⟨rfl, S3.out.ext⟩
              · have c5 : decide (((nth B v).length : Int) ≤ i) = false := by simp; omega
                have c5n : decide ((nth B v).length ≤ i) = false := by simp; omega
                have hil : i < (nth B v).length := by omega
                clear h4
                obtain ⟨u, d, hx, hu, d0, d1, hd, hB⟩ := HHI.out v i hv hil
                obtain ⟨k1, k2, k3⟩ := HQU.out u v hu hv
                obtain ⟨k4, k5⟩ := HLS.out v i u d hv hil hx hu
                rw [hd] at k1 k5
                rw [hB] at k2
                have HQ1 := Lib.hid k1
                have HQ2 := Lib.hid k2
                have HQ3 := Lib.hid k3
                have HQ4 := Lib.hid k4
                have HQ5 := Lib.hid k5
                have HSS := Lib.hid (lsize_less (A := A) (B := B) (v := v) (i := i) (by rw [LB.out]; exact hv) hil)
                have HIX := Lib.hid hx
                have b4 : (i:Int) < (nth B v).length := by omega
                have b5 := (HLN.out v hv).2
                clear hx hd hB k1 k2 k3 k4 k5 HHI HQU HLS
                go_enter Tryz.func6, Tryz.ntmps6
                go_wp2_with (first
                  | (go_at_call 31; have _t := S4; go_must (refine (OwnL12 qO n cO HO A qI n cI HI B _ (RA.out.ext Z4.out) (RB.out.ext Z4.out) (fun v hv => by have := (HLN.out v hv).1; omega) (fun v hv => by have := (HLN.out v hv).2; omega) (by omega) (by omega)).mono ?_; rintro e w5 ⟨qA, kA, hA', qB, kB, hB', rfl, lA', lB', Z⟩; have S5 := Lib.hid (((Sep.start w4).comp Z).al #[.slice qA n kA, .slice qB n kB] 42 w5.heap.size rfl); clear Z))
                  | (go_at_call 32; have _t := S3; go_must (refine (LQueryG qO n cO HO A qI n cI HI B u v _ (RA.out.ext Z3.out) (RB.out.ext Z3.out)).mono ?_; rintro e w4 ⟨rfl, hb⟩; rw [HQ1.out, HQ2.out, HQ3.out]; have Z4 := Lib.hid (Ext.trans Z3.out hb); have S4 := Lib.hid (S3.out.call hb); have l0 := (S4.out.blk 1 rfl).cell 0; have l1 := (S4.out.blk 1 rfl).cell 1; have lz := (S4.out.blk 1 rfl).lt; clear hb))
                  | (go_at_call 10; have _t := S1; go_must (refine (HBig.out _ S1.out.ext).mono ?_; rintro e w2 ⟨rfl, hb⟩; have S2 := Lib.hid (S1.out.call hb); have S3 := Lib.hid (S2.out.al #[.int .i64 u, .int .i64 d] 54 w2.heap.size rfl); have Z3 := Lib.hid (Ext.trans hb (Ext.alloc (Below.refl _ _) (.cells #[.int .i64 u, .int .i64 d] 54))); have gB := (RB.out.ext hb).row.cH hv; have pB := RB.out.row.ptr; have eB := (RB.out.ext hb).each v hv; have pb := eB.ptr; have nb := eB.nE; rw [nb] at gB pb; have hB1 := eB.cE (k := i) (by omega); have hB2 := eB.cE2 (k := i) (by omega); rw [HIX.out] at hB1 hB2; simp only at hB1 hB2; have b0 := (S2.out.blk 0 rfl).cell 0; have b1 := (S2.out.blk 0 rfl).cell 1; have bz := (S2.out.blk 0 rfl).lt; have y0 := (S2.out.blk 1 rfl).cell 0; have y1 := (S2.out.blk 1 rfl).cell 1; have y2 := (S2.out.blk 1 rfl).cell 2; have y3 := (S2.out.blk 1 rfl).cell 3; have yz := (S2.out.blk 1 rfl).lt; clear hb eB nb))
                  | (go_at_call 26; go_must (refine (HBu.out _ S0.out.ext).mono ?_; rintro e w1 ⟨qO, cO, qI, cI, HO, HI, rfl, ra, rb, hb⟩; have RA := Lib.hid (ra.ext (Ext.alloc (Below.refl _ _) (.cells #[.slice qO n cO, .slice qI n cI] 42))); have RB := Lib.hid (rb.ext (Ext.alloc (Below.refl _ _) (.cells #[.slice qO n cO, .slice qI n cI] 42))); have S1 := Lib.hid ((S0.out.call hb).al #[.slice qO n cO, .slice qI n cI] 42 w1.heap.size rfl); have a0 := (S1.out.blk 0 rfl).cell 0; have a1 := (S1.out.blk 0 rfl).cell 1; have az := (S1.out.blk 0 rfl).lt; have x0 := (S1.out.blk 1 rfl).cell 0; have x1 := (S1.out.blk 1 rfl).cell 1; have x2 := (S1.out.blk 1 rfl).cell 2; have x3 := (S1.out.blk 1 rfl).cell 3; have xz := (S1.out.blk 1 rfl).lt; clear hb ra rb)))
                obtain ⟨X, hX⟩ : ∃ X, X = w5.alloc (.cells #[.slice qA n kA, .slice qB n kB] 42) := ⟨_, rfl⟩
                rw [← hX] at S5 ⊢
                have zX : w5.heap.size < X.heap.size := by rw [hX]; simp
                clear hX
                rename_i K0 HK0
                have HK := Lib.hid HK0
                clear HK0
                have h0 := (S4.out.blk 0 rfl).cell 0
                have h1 := (S4.out.blk 0 rfl).cell 1
                have q0 : w4.cell? ⟨w2.heap.size, 0, none⟩ = some (.int .i64 u) := h0
                have q1 : w4.cell? ⟨w2.heap.size, 1, none⟩ = some (.int .i64 d) := h1
                have q2 : w4.cell? ⟨w1.heap.size, 0, none⟩ = some (.slice qO n cO) := (S4.out.blk 1 rfl).cell 0
                have q3 : w4.cell? ⟨w1.heap.size, 1, none⟩ = some (.slice qI n cI) := (S4.out.blk 1 rfl).cell 1
                have RB5 := Lib.hid (RdT.of_sep S5.out 1 2 rfl rfl (by rw [LB.out]; exact lB'))
                have eB := RB5.out.each v hv
                have cB := RB5.out.row.cH hv
                have pB5 := RB5.out.row.ptr
                have hnb := eB.nE
                obtain ⟨⟨hp, hn', hc⟩, hxb⟩ : ∃ x, nth hB' v = x := ⟨_, rfl⟩
                rw [hxb] at cB eB hnb
                simp only at cB eB hnb
                subst hnb
                have HW := Lib.hid (fun W (h : Ext X W) => WithoutG hp _ hc (nth B v) i W (eB.ext h) (by omega) (by omega))
                have hm : ((nth B v).eraseIdx i).length ≤ 200 := Nat.le_trans (List.length_eraseIdx_le ..) (by omega)
                have x1' : X.cell? ⟨w5.heap.size, 1, none⟩ = some (.slice qB n kB) := (S5.out.blk 0 rfl).cell 1
                clear hB1 hB2 gB pB pb l0 l1 lz h0 h1 eB hxb a0 a1 az x0 x1 x2 x3 xz y0 y1 y2 y3 yz
                generalize hE2 : (nth B v).eraseIdx i = E2 at *
                have x7 := fun x : ExtOf X => x.ext.cell x1'
                have x8 := fun x : ExtOf X => x.ext.cell cB
                refine wp_region_mix [true, true, true, true, true, true, true, true, true, false, true] (LeftQ X.heap.size E2.length E2) (by kernel_rfl) (by kernel_rfl) (by kernel_rfl) LeftQ_mono ?_
                simp only [nfM]
                repeat (go_big_quiet_step ((fail)))
                refine wpQuiet_nil ⟨⟨fun vs W1 hE hd => ?_, trivial⟩, fun vs W1 hE hkn => ?_⟩
                · simp [putM, go_sem]
                  exact (HW.out _ hE).mono fun e w' ⟨q, d, h1, S⟩ => ⟨_, h1, fun _ => ⟨q, d, rfl, own_base (S.own 0 rfl) hE.size⟩, S.ext⟩
                obtain ⟨h9, _⟩ := hkn
                obtain ⟨q7, d7, e7, r7⟩ := h9 rfl
                have Y := Lib.hid (S5.out.fresh hE r7 (Nat.le_refl _))
                simp only [putM, e7, List.length_cons, List.length_nil, Nat.zero_add, Nat.reduceAdd, List.drop_succ_cons, List.drop_zero]
                have t0 := own_cell (Y.out.own 3 rfl) (k := v) (by omega)
                rw [encH_get _ _ (by omega)] at t0
                have t1 := own_frozen (Y.out.own 3 rfl) (by omega) v
                have t2 := World.block_lt_of_cell? W1 _ t0
                have S6 := Lib.hid (Y.out.setRow 3 rfl v (by omega) (.slice q7 E2.length d7))
                clear x7 x8 e7 h9 hE r7 x1' cB HW
                go_wp2
                generalize W1.setCell (adr qB v) (.slice q7 E2.length d7) = W6 at *
                have RA6 := Lib.hid (RdT.of_sep S6.out 4 5 rfl rfl (by rw [LA.out]; exact lA'))
                have RB6 := Lib.hid (RdT.of_set S6.out 0 2 3 rfl rfl rfl lB' LB.out hv)
                have m0 : W6.cell? ⟨w5.heap.size, 0, none⟩ = some (.slice qA n kA) := (S6.out.blk 1 rfl).cell 0
                have m1 : W6.cell? ⟨w5.heap.size, 1, none⟩ = some (.slice qB n kB) := (S6.out.blk 1 rfl).cell 1
                have mz := (S6.out.blk 1 rfl).lt
                have p0 := S6.out.ext.cell q0
                have p1 := S6.out.ext.cell q1
                have HSL := HSZ.out
                rw [← HSS.out] at HSL
                clear t0 t1 t2 Y S5 RB5
                refine HK.out _ _ ?_
                go_wp2_with (go_at_call 32; go_must (refine (LQueryG qA n kA hA' A qB n kB _ _ u v W6 RA6.out RB6.out).mono ?_; rintro e w6 ⟨rfl, hb⟩; rw [HQ4.out]; have Z6 := Lib.hid hb; have S7 := Lib.hid (S6.out.call hb); clear hb))
                have E46 := Lib.hid (Ext.trans S6.out.ext Z6.out)
                have H1 := Lib.hid (fun x : ExtOf w6 => Labels12 x.val)
                have H2 := Lib.hid (fun x : ExtOf w6 => LSizeG qA n kA hA' A qB n kB _ _ x.val (RA6.out.ext (Ext.trans Z6.out x.ext)) (RB6.out.ext (Ext.trans Z6.out x.ext)) (by omega) (by omega) (by omega))
                have H3' := fun x : ExtOf w6 => LSizeG qO n cO HO A qI n cI HI B x.val (RA.out.ext (Ext.trans Z4.out (Ext.trans E46.out x.ext))) (RB.out.ext (Ext.trans Z4.out (Ext.trans E46.out x.ext))) (by rw [← HSS.out]; omega) (by omega) (by omega)
                rw [← HSS.out] at H3'
                have H3 := Lib.hid H3'
                clear H3' HSZ HSS
                generalize queryN A (B.set v E2) u v = N2 at *
                generalize queryO A (B.set v E2) u v = O2 at *
                generalize lsize A (B.set v E2) = s at *
                have f4 : (((s : Nat) : Int) + 1 == (s : Int) + 1) = true := by simp
                have f1 : (d == d) = true := by simp
                have g0 := Z6.out.cell m0
                have g3 := Z6.out.cell m1
                have g5 := Z6.out.cell p1
                have g6 := E46.out.cell q2
                have g7 := E46.out.cell q3
                have o0 := fun x : ExtOf w6 => x.ext.cell g0
                have o1 := fun x : ExtOf w6 => x.ext.cell g3
                have o2 := fun x : ExtOf w6 => x.ext.cell g5
                have o3 := fun x : ExtOf w6 => x.ext.cell g6
                have o4 := fun x : ExtOf w6 => x.ext.cell g7
                cases O2 with
                | false =>
                  refine wp_region_ext (by kernel_rfl) (by kernel_rfl) ?_
                  repeat (go_big_quiet_step (((first | (go_at_call 28; exact Calls.ext_of (H1.out _)) | (go_at_call 36; with_reducible exact Calls.ext_of (H2.out _)) | (go_at_call 36; exact Calls.ext_of (H3.out _))))))
                  refine wpQuiet_nil ?_
                  rintro w9 ⟨⟨_, hb9⟩, rfl⟩
                  go_wp2
                  go_ret
                  exact ⟨rfl, Ext.trans S4.out.ext (Ext.trans E46.out hb9)⟩
                | true =>
                  have f5 : decide (d < N2) = true := by simpa using HQ5.out rfl
                  refine wp_region_ext (by kernel_rfl) (by kernel_rfl) ?_
                  repeat (go_big_quiet_step (((first | (go_at_call 28; exact Calls.ext_of (H1.out _)) | (go_at_call 36; with_reducible exact Calls.ext_of (H2.out _)) | (go_at_call 36; exact Calls.ext_of (H3.out _))))))
                  refine wpQuiet_nil ?_
                  rintro w9 ⟨⟨_, hb9⟩, rfl⟩
                  go_wp2
                  go_ret
                  exact ⟨rfl, Ext.trans S4.out.ext (Ext.trans E46.out hb9)⟩
end Go.Proofs.YthlmcfbadhidbaaGreat
/- The law LabelSelf: each hit is a distance, each place its own hub. -/
namespace Go.Proofs.YthlmcfbadhidbaaGreat
open Go Go.RowKit
theorem lab_len {nx : Nat → List Int} {n : Nat} {L : List Int} {v : Nat} (hv : v < n) (hn : n ≤ 200) : (nth (labT nx n L n) v).length ≤ 200 := by
  rw [labT_nth hv]; exact Nat.le_trans (labI_len ..) hn
set_option maxRecDepth 100000 in
set_option maxHeartbeats 8000000 in
theorem lawSelf12 (po : Option Addr) (no co : Nat) (O : List Int) (pt : Option Addr) (nt ct : Nat) (T : List Int) (pr : Option Addr) (nr cr : Nat) (R : List Int) (pv : Option Addr) (nv cv : Nat) (V : List Int) (w : World) (hO : Rd w 1 po no (encI O)) (hT : Rd w 1 pt nt (encI T)) (hR : Rd w 1 pr nr (encI R)) (hV : Rd w 1 pv nv (encI V)) (hct : nt ≤ ct) (hcv : nv ≤ cv) : Calls Tryz.prog 9 #[.agg #[.slice po no co, .slice pt nt ct, .slice pr nr cr, .slice pv nv cv]] w fun e w' => e = .returned (.bool true) ∧ Ext w w' := by
  have HBig := Lib.hid (fun W1 (h : Ext w W1) => Big04 po no co O pt nt ct T pr nr cr R pv nv cv V W1 (hO.ext h) (hT.ext h) (hR.ext h) (hV.ext h))
  have S0 := Lib.hid ((Sep.start w).al #[.slice po no co, .slice pt nt ct, .slice pr nr cr, .slice pv nv cv] 24 w.heap.size rfl)
  have lO := hO.nI
  have pz := hO.small
  cases hck : checkR O T R V with
  | false =>
    have HBu := Lib.hid (fun W1 (h : Ext w W1) => BuildG_no po no co O pt nt ct T pr nr cr R pv nv cv V W1 (hO.ext h) (hT.ext h) (hR.ext h) (hV.ext h) hct hcv hck)
    clear hO hT hR hV hct hcv lO
    cases hbig : bigR O T R V with
    | true =>
      rw [hbig] at HBig
      clear hbig
      go_enter Tryz.func9, Tryz.ntmps9
      go_wp2_with (first | (go_at_call 28; have _t := S2; go_must (refine (Labels12 _).mono ?_; rintro e w3 ⟨rfl, hb⟩; have S3 := Lib.hid (S2.out.call hb); clear hb)) | (go_at_call 10; have _t := S1; go_must (refine (HBig.out _ S1.out.ext).mono ?_; rintro e w2 ⟨rfl, hb⟩; have Z2 := Lib.hid hb; have S2 := Lib.hid (S1.out.call hb); have b0 := (S2.out.blk 0 rfl).cell 0; have b1 := (S2.out.blk 0 rfl).cell 1; have bz := (S2.out.blk 0 rfl).lt; have y0 := (S2.out.blk 1 rfl).cell 0; have y1 := (S2.out.blk 1 rfl).cell 1; have y2 := (S2.out.blk 1 rfl).cell 2; have y3 := (S2.out.blk 1 rfl).cell 3; have yz := (S2.out.blk 1 rfl).lt; clear hb)) | (go_at_call 26; go_must (refine (HBu.out _ S0.out.ext).mono ?_; rintro e w1 ⟨rfl, hb⟩; have S1 := Lib.hid ((S0.out.call hb).al #[.slice none 0 0, .slice none 0 0] 42 w1.heap.size rfl); have a0 := (S1.out.blk 0 rfl).cell 0; have a1 := (S1.out.blk 0 rfl).cell 1; have az := (S1.out.blk 0 rfl).lt; have x0 := (S1.out.blk 1 rfl).cell 0; have x1 := (S1.out.blk 1 rfl).cell 1; have x2 := (S1.out.blk 1 rfl).cell 2; have x3 := (S1.out.blk 1 rfl).cell 3; have xz := (S1.out.blk 1 rfl).lt; clear hb)))
      go_ret
      exact ⟨rfl, S3.out.ext⟩
    | false =>
      rw [hbig] at HBig
      clear hbig
      by_cases hn : (30:Int) < no
      · have c1 : decide ((30:Int) < no) = true := by simpa using hn
        clear hn
        go_enter Tryz.func9, Tryz.ntmps9
        go_wp2_with (first | (go_at_call 28; have _t := S2; go_must (refine (Labels12 _).mono ?_; rintro e w3 ⟨rfl, hb⟩; have S3 := Lib.hid (S2.out.call hb); clear hb)) | (go_at_call 10; have _t := S1; go_must (refine (HBig.out _ S1.out.ext).mono ?_; rintro e w2 ⟨rfl, hb⟩; have Z2 := Lib.hid hb; have S2 := Lib.hid (S1.out.call hb); have b0 := (S2.out.blk 0 rfl).cell 0; have b1 := (S2.out.blk 0 rfl).cell 1; have bz := (S2.out.blk 0 rfl).lt; have y0 := (S2.out.blk 1 rfl).cell 0; have y1 := (S2.out.blk 1 rfl).cell 1; have y2 := (S2.out.blk 1 rfl).cell 2; have y3 := (S2.out.blk 1 rfl).cell 3; have yz := (S2.out.blk 1 rfl).lt; clear hb)) | (go_at_call 26; go_must (refine (HBu.out _ S0.out.ext).mono ?_; rintro e w1 ⟨rfl, hb⟩; have S1 := Lib.hid ((S0.out.call hb).al #[.slice none 0 0, .slice none 0 0] 42 w1.heap.size rfl); have a0 := (S1.out.blk 0 rfl).cell 0; have a1 := (S1.out.blk 0 rfl).cell 1; have az := (S1.out.blk 0 rfl).lt; have x0 := (S1.out.blk 1 rfl).cell 0; have x1 := (S1.out.blk 1 rfl).cell 1; have x2 := (S1.out.blk 1 rfl).cell 2; have x3 := (S1.out.blk 1 rfl).cell 3; have xz := (S1.out.blk 1 rfl).lt; clear hb)))
        go_ret
        exact ⟨rfl, S3.out.ext⟩
      · have c1 : decide ((30:Int) < no) = false := by simpa using hn
        clear hn
        go_enter Tryz.func9, Tryz.ntmps9
        go_wp2_with (first | (go_at_call 28; have _t := S2; go_must (refine (Labels12 _).mono ?_; rintro e w3 ⟨rfl, hb⟩; have S3 := Lib.hid (S2.out.call hb); clear hb)) | (go_at_call 10; have _t := S1; go_must (refine (HBig.out _ S1.out.ext).mono ?_; rintro e w2 ⟨rfl, hb⟩; have Z2 := Lib.hid hb; have S2 := Lib.hid (S1.out.call hb); have b0 := (S2.out.blk 0 rfl).cell 0; have b1 := (S2.out.blk 0 rfl).cell 1; have bz := (S2.out.blk 0 rfl).lt; have y0 := (S2.out.blk 1 rfl).cell 0; have y1 := (S2.out.blk 1 rfl).cell 1; have y2 := (S2.out.blk 1 rfl).cell 2; have y3 := (S2.out.blk 1 rfl).cell 3; have yz := (S2.out.blk 1 rfl).lt; clear hb)) | (go_at_call 26; go_must (refine (HBu.out _ S0.out.ext).mono ?_; rintro e w1 ⟨rfl, hb⟩; have S1 := Lib.hid ((S0.out.call hb).al #[.slice none 0 0, .slice none 0 0] 42 w1.heap.size rfl); have a0 := (S1.out.blk 0 rfl).cell 0; have a1 := (S1.out.blk 0 rfl).cell 1; have az := (S1.out.blk 0 rfl).lt; have x0 := (S1.out.blk 1 rfl).cell 0; have x1 := (S1.out.blk 1 rfl).cell 1; have x2 := (S1.out.blk 1 rfl).cell 2; have x3 := (S1.out.blk 1 rfl).cell 3; have xz := (S1.out.blk 1 rfl).lt; clear hb)))
        go_ret
        exact ⟨rfl, S3.out.ext⟩
  | true =>
    have r := offB_parts (halfB_off (checkR_half hck).2.2.1)
    obtain ⟨n, hno⟩ : ∃ n, O.length = n + 1 := ⟨O.length - 1, by omega⟩
    have HBu := Lib.hid (fun W1 (h : Ext w W1) => BuildRd po no co O pt nt ct T pr nr cr R pv nv cv V n W1 (hO.ext h) (hT.ext h) (hR.ext h) (hV.ext h) hct hcv hck hno)
    have HDs := Lib.hid (fun (a b : Nat) W1 (h : Ext w W1) (ha : a < n) (hb : b < n) => DistG_yes po no co O pt nt ct T pr nr cr R pv nv cv V n a b W1 (hO.ext h) (hT.ext h) (hR.ext h) (hV.ext h) hct hcv hck hno ha hb)
    have HSf := fun (v : Nat) (hv : v < n) => lab_selfs hck hno hv
    have HLf := fun (v : Nat) (hv : v < n) => (⟨lab_len hv (by omega), lab_len hv (by omega)⟩ : (nth (labT (rowL R V) n (byL O R n) n) v).length ≤ 200 ∧ (nth (labT (rowL O T) n (byL O R n) n) v).length ≤ 200)
    have HHo := fun (v j : Nat) (hv : v < n) => lab_hit hck hno hv (j := j) false
    have HHi := fun (v j : Nat) (hv : v < n) => lab_hit hck hno hv (j := j) true
    simp only [Bool.false_eq_true, if_false, if_true] at HHo HHi
    have hn1 : 1 ≤ n ∧ n ≤ 200 ∧ no = n + 1 := by omega
    obtain ⟨g1, g2, rfl⟩ := hn1
    clear hO hT hR hV hct hcv lO r hck
    generalize labT (rowL R V) n (byL O R n) n = A at *
    generalize labT (rowL O T) n (byL O R n) n = B at *
    generalize lev (rowL O T) n = D at *
    cases hbig : bigR O T R V with
    | true =>
      rw [hbig] at HBig
      clear hbig HSf HLf HHo HHi
      go_enter Tryz.func9, Tryz.ntmps9
      go_wp2_with (first | (go_at_call 28; have _t := S2; go_must (refine (Labels12 _).mono ?_; rintro e w3 ⟨rfl, hb⟩; have S3 := Lib.hid (S2.out.call hb); clear hb)) | (go_at_call 10; have _t := S1; go_must (refine (HBig.out _ S1.out.ext).mono ?_; rintro e w2 ⟨rfl, hb⟩; have Z2 := Lib.hid hb; have S2 := Lib.hid (S1.out.call hb); have b0 := (S2.out.blk 0 rfl).cell 0; have b1 := (S2.out.blk 0 rfl).cell 1; have bz := (S2.out.blk 0 rfl).lt; have y0 := (S2.out.blk 1 rfl).cell 0; have y1 := (S2.out.blk 1 rfl).cell 1; have y2 := (S2.out.blk 1 rfl).cell 2; have y3 := (S2.out.blk 1 rfl).cell 3; have yz := (S2.out.blk 1 rfl).lt; clear hb)) | (go_at_call 26; go_must (refine (HBu.out _ S0.out.ext).mono ?_; rintro e w1 ⟨qO, cO, qI, cI, HO, HI, rfl, ra, rb, hb⟩; have RA := Lib.hid (ra.ext (Ext.alloc (Below.refl _ _) (.cells #[.slice qO n cO, .slice qI n cI] 42))); have RB := Lib.hid (rb.ext (Ext.alloc (Below.refl _ _) (.cells #[.slice qO n cO, .slice qI n cI] 42))); have S1 := Lib.hid ((S0.out.call hb).al #[.slice qO n cO, .slice qI n cI] 42 w1.heap.size rfl); have a0 := (S1.out.blk 0 rfl).cell 0; have a1 := (S1.out.blk 0 rfl).cell 1; have az := (S1.out.blk 0 rfl).lt; have x0 := (S1.out.blk 1 rfl).cell 0; have x1 := (S1.out.blk 1 rfl).cell 1; have x2 := (S1.out.blk 1 rfl).cell 2; have x3 := (S1.out.blk 1 rfl).cell 3; have xz := (S1.out.blk 1 rfl).lt; clear hb ra rb)))
      go_ret
      exact ⟨rfl, S3.out.ext⟩
    | false =>
      rw [hbig] at HBig
      clear hbig
      by_cases hn : (30:Int) < (n:Int) + 1
      · have c1 : decide ((30:Int) < (n:Int) + 1) = true := by simpa using hn
        clear hn HSf HLf HHo HHi
        go_enter Tryz.func9, Tryz.ntmps9
        go_wp2_with (first | (go_at_call 28; have _t := S2; go_must (refine (Labels12 _).mono ?_; rintro e w3 ⟨rfl, hb⟩; have S3 := Lib.hid (S2.out.call hb); clear hb)) | (go_at_call 10; have _t := S1; go_must (refine (HBig.out _ S1.out.ext).mono ?_; rintro e w2 ⟨rfl, hb⟩; have Z2 := Lib.hid hb; have S2 := Lib.hid (S1.out.call hb); have b0 := (S2.out.blk 0 rfl).cell 0; have b1 := (S2.out.blk 0 rfl).cell 1; have bz := (S2.out.blk 0 rfl).lt; have y0 := (S2.out.blk 1 rfl).cell 0; have y1 := (S2.out.blk 1 rfl).cell 1; have y2 := (S2.out.blk 1 rfl).cell 2; have y3 := (S2.out.blk 1 rfl).cell 3; have yz := (S2.out.blk 1 rfl).lt; clear hb)) | (go_at_call 26; go_must (refine (HBu.out _ S0.out.ext).mono ?_; rintro e w1 ⟨qO, cO, qI, cI, HO, HI, rfl, ra, rb, hb⟩; have RA := Lib.hid (ra.ext (Ext.alloc (Below.refl _ _) (.cells #[.slice qO n cO, .slice qI n cI] 42))); have RB := Lib.hid (rb.ext (Ext.alloc (Below.refl _ _) (.cells #[.slice qO n cO, .slice qI n cI] 42))); have S1 := Lib.hid ((S0.out.call hb).al #[.slice qO n cO, .slice qI n cI] 42 w1.heap.size rfl); have a0 := (S1.out.blk 0 rfl).cell 0; have a1 := (S1.out.blk 0 rfl).cell 1; have az := (S1.out.blk 0 rfl).lt; have x0 := (S1.out.blk 1 rfl).cell 0; have x1 := (S1.out.blk 1 rfl).cell 1; have x2 := (S1.out.blk 1 rfl).cell 2; have x3 := (S1.out.blk 1 rfl).cell 3; have xz := (S1.out.blk 1 rfl).lt; clear hb ra rb)))
        go_ret
        exact ⟨rfl, S3.out.ext⟩
      · have c1 : decide ((30:Int) < (n:Int) + 1) = false := by simpa using hn
        have hn29 : n ≤ 29 := by omega
        have QS := Lib.hid HSf
        have QL := Lib.hid HLf
        have QO := Lib.hid HHo
        have QI := Lib.hid HHi
        clear hn HSf HLf HHo HHi hno
        go_enter Tryz.func9, Tryz.ntmps9
        go_wp2_with (first | (go_at_call 10; have _t := S1; go_must (refine (HBig.out _ S1.out.ext).mono ?_; rintro e w2 ⟨rfl, hb⟩; have Z2 := Lib.hid hb; have S2 := Lib.hid (S1.out.call hb); have b0 := (S2.out.blk 0 rfl).cell 0; have b1 := (S2.out.blk 0 rfl).cell 1; have bz := (S2.out.blk 0 rfl).lt; have y0 := (S2.out.blk 1 rfl).cell 0; have y1 := (S2.out.blk 1 rfl).cell 1; have y2 := (S2.out.blk 1 rfl).cell 2; have y3 := (S2.out.blk 1 rfl).cell 3; have yz := (S2.out.blk 1 rfl).lt; clear hb)) | (go_at_call 26; go_must (refine (HBu.out _ S0.out.ext).mono ?_; rintro e w1 ⟨qO, cO, qI, cI, HO, HI, rfl, ra, rb, hb⟩; have RA := Lib.hid (ra.ext (Ext.alloc (Below.refl _ _) (.cells #[.slice qO n cO, .slice qI n cI] 42))); have RB := Lib.hid (rb.ext (Ext.alloc (Below.refl _ _) (.cells #[.slice qO n cO, .slice qI n cI] 42))); have S1 := Lib.hid ((S0.out.call hb).al #[.slice qO n cO, .slice qI n cI] 42 w1.heap.size rfl); have a0 := (S1.out.blk 0 rfl).cell 0; have a1 := (S1.out.blk 0 rfl).cell 1; have az := (S1.out.blk 0 rfl).lt; have x0 := (S1.out.blk 1 rfl).cell 0; have x1 := (S1.out.blk 1 rfl).cell 1; have x2 := (S1.out.blk 1 rfl).cell 2; have x3 := (S1.out.blk 1 rfl).cell 3; have xz := (S1.out.blk 1 rfl).lt; clear hb ra rb)))
        clear HBig HBu S1 S0
        go_loopw [5, 6, 7, 8, 9, 10, 11, 12, 13, 14, 15, 16] (fun v5 _ _ _ _ _ _ _ _ _ _ _ wr => ∃ k : Nat, k ≤ n ∧ v5 = .int .i64 k ∧ Ext w2 wr) (fun v5 _ _ _ _ _ _ _ _ _ _ _ _ => n - (intOf v5).toNat)
        case atStart => exact ⟨0, Nat.zero_le _, rfl, Below.refl _ _⟩
        case round =>
          obtain ⟨k, hk, rfl, hE⟩ := hrel
          have S3 := Lib.hid (S2.out.call hE)
          have c0 := (S3.out.blk 0 rfl).cell 0; have c1 := (S3.out.blk 0 rfl).cell 1; have cz := (S3.out.blk 0 rfl).lt; have u0 := (S3.out.blk 1 rfl).cell 0; have u1 := (S3.out.blk 1 rfl).cell 1; have u2 := (S3.out.blk 1 rfl).cell 2; have u3 := (S3.out.blk 1 rfl).cell 3; have uz := (S3.out.blk 1 rfl).lt
          by_cases hlt : k < n
          · have d1 : (0:Int) ≤ k := by omega
            have d2 : (k:Int) < n := by omega
            have HS := Lib.hid (QS.out k hlt)
            have WO := Lib.hid (fun j (hj : j < (nth A k).length) => QO.out k j hlt hj)
            have WI := Lib.hid (fun j (hj : j < (nth B k).length) => QI.out k j hlt hj)
            have HDk := Lib.hid (fun (u : Nat) (hu : u < n) W (h : Ext w2 W) => HDs.out k u W (Ext.trans S2.out.ext h) hlt hu)
            have HDu := Lib.hid (fun (u : Nat) (hu : u < n) W (h : Ext w2 W) => HDs.out u k W (Ext.trans S2.out.ext h) hu hlt)
            obtain ⟨⟨ap, an, ac⟩, hxa⟩ : ∃ x, nth HO k = x := ⟨_, rfl⟩
            obtain ⟨⟨bp, bn, bc⟩, hxb⟩ : ∃ x, nth HI k = x := ⟨_, rfl⟩
            have hcA : Hid (w2.cell? (adr qO k) = some (.slice ap an ac)) := by have := (RA.out.ext Z2.out).row.cH hlt; rw [hxa] at this; exact this
            have hcB : Hid (w2.cell? (adr qI k) = some (.slice bp bn bc)) := by have := (RB.out.ext Z2.out).row.cH hlt; rw [hxb] at this; exact this
            have eA : Hid (Rd w2 2 ap an (encE (nth A k))) := by have := (RA.out.ext Z2.out).each k hlt; rw [hxa] at this; exact this
            have eB : Hid (Rd w2 2 bp bn (encE (nth B k))) := by have := (RB.out.ext Z2.out).each k hlt; rw [hxb] at this; exact this
            have lA := Lib.hid eA.out.nE
            have lB := Lib.hid eB.out.nE
            have pA := (RA.out.ext Z2.out).row.ptr
            have pB := (RB.out.ext Z2.out).row.ptr
            have pa := eA.out.ptr
            have pb := eB.out.ptr
            have sa := eA.out.small
            have sb := eB.out.small
            have bA := Lib.hid (fun j => selfN_le (nth A k) j k)
            have bB := Lib.hid (fun j => selfN_le (nth B k) j k)
            have kA := Lib.hid (fun j hj => selfN_step (l := nth A k) (k := j) hj (k:Int))
            have kB := Lib.hid (fun j hj => selfN_step (l := nth B k) (k := j) hj (k:Int))
            have lenA := Lib.hid (QL.out k hlt).1
            have lenB := Lib.hid (QL.out k hlt).2
            rw [← lA.out] at lenA
            rw [← lB.out] at lenB
            generalize nth A k = a at *
            generalize nth B k = b at *
            have hcA0 := hE.cell hcA.out
            have hcB0 := hE.cell hcB.out
            clear hxa hxb
            have HE := Lib.hid hE; clear hE
            go_wp2
            go_loopw [6, 7, 8, 9, 10, 11] (fun v6 v7 _ _ _ _ wx => ∃ j : Nat, j ≤ an ∧ v6 = .int .i64 (selfN (a.take j) k : Nat) ∧ v7 = .int .i64 j ∧ Ext w2 wx) (fun _ v7 _ _ _ _ _ => an - (intOf v7).toNat)
            case atStart => exact ⟨0, Nat.zero_le _, rfl, rfl, HE.out⟩
            case round =>
              obtain ⟨j, hj, rfl, rfl, hF⟩ := hrel
              have S4 := Lib.hid (S2.out.call hF)
              have g0 := (S4.out.blk 0 rfl).cell 0; have g1 := (S4.out.blk 0 rfl).cell 1; have gz := (S4.out.blk 0 rfl).lt; have m0 := (S4.out.blk 1 rfl).cell 0; have m1 := (S4.out.blk 1 rfl).cell 1; have m2 := (S4.out.blk 1 rfl).cell 2; have m3 := (S4.out.blk 1 rfl).cell 3; have mz := (S4.out.blk 1 rfl).lt
              have g1 := hF.cell hcA.out
              by_cases hjt : j < an
              · obtain ⟨u, d, hx, hu, h0, h2, hd, hB⟩ := WO.out j (by rw [← lA.out]; exact hjt)
                have c1 := hF.cell (eA.out.cE hjt)
                have c2 := hF.cell (eA.out.cE2 hjt)
                have st := kA.out j (by rw [← lA.out]; exact hjt)
                rw [hx] at c1 c2 st
                simp only at c1 c2 st
                have HX := HDk.out u hu
                rw [hd, hB] at HX
                have HXk := Lib.hid HX
                have d3 : (0:Int) ≤ j := by omega
                have d4 : (j:Int) < an := by omega
                have bj := bA.out j
                have bl := lenA.out
                rw [← lA.out] at bj
                have HST := Lib.hid st
                have S5 := Lib.hid (S4.out.al #[.int .i64 u, .int .i64 d] 54 wr.heap.size rfl)
                have Z5 := Lib.hid (Ext.trans hF (Ext.alloc (Below.refl _ _) (.cells #[.int .i64 u, .int .i64 d] 54)))
                have xg : (d != d) = false := by simp
                clear st hx hd hB HX h0 h2
                generalize selfN (a.take j) k = sj at *
                by_cases huk : u = k
                · have e1 : ((u:Int) == (k:Int)) = true := by rw [beq_iff_eq]; omega
                  rw [if_pos (by rw [huk])] at HST
                  clear huk
                  have HF := Lib.hid hF; clear hF
                  go_wp2_with (go_at_call 39; go_must (refine (HXk.out _ Z5.out).mono ?_; rintro e w6 ⟨rfl, hb⟩; have Z6 := Lib.hid (Ext.trans Z5.out hb); have S6 := Lib.hid (S5.out.call hb); have f0 := (S6.out.blk 0 rfl).cell 0; have f1 := (S6.out.blk 0 rfl).cell 1; have fz := (S6.out.blk 0 rfl).lt; clear hb))
                  go_roundw
                  case rel => exact ⟨j + 1, by omega, by rw [HST.out]; go_num, by go_num, Z6.out⟩
                  case measure => simp [intOf]; omega
                · have e1 : ((u:Int) == (k:Int)) = false := by rw [beq_eq_false_iff_ne]; omega
                  rw [if_neg (by omega)] at HST
                  clear huk
                  have HF := Lib.hid hF; clear hF
                  go_wp2_with (go_at_call 39; go_must (refine (HXk.out _ Z5.out).mono ?_; rintro e w6 ⟨rfl, hb⟩; have Z6 := Lib.hid (Ext.trans Z5.out hb); have S6 := Lib.hid (S5.out.call hb); have f0 := (S6.out.blk 0 rfl).cell 0; have f1 := (S6.out.blk 0 rfl).cell 1; have fz := (S6.out.blk 0 rfl).lt; clear hb))
                  go_roundw
                  case rel => exact ⟨j + 1, by omega, by rw [HST.out]; go_num, by go_num, Z6.out⟩
                  case measure => simp [intOf]; omega
              · obtain rfl : j = an := by omega
                have tA : selfN (a.take j) k = 1 := by rw [List.take_of_length_le (by rw [← lA.out]; exact Nat.le_refl _)]; exact HS.out.1
                rw [tA]
                clear tA
                have hcB1 := hF.cell hcB.out
                have HF := Lib.hid hF; clear hF
                go_wp2
                go_loopw [6, 12, 13, 14, 15, 16] (fun v6 v7 _ _ _ _ wx => ∃ j : Nat, j ≤ bn ∧ v6 = .int .i64 (1 + selfN (b.take j) k : Nat) ∧ v7 = .int .i64 j ∧ Ext w2 wx) (fun _ v7 _ _ _ _ _ => bn - (intOf v7).toNat)
                case atStart => exact ⟨0, Nat.zero_le _, rfl, rfl, HF.out⟩
                case round =>
                  obtain ⟨j, hj, rfl, rfl, hF⟩ := hrel
                  have S4 := Lib.hid (S2.out.call hF)
                  have h0 := (S4.out.blk 0 rfl).cell 0; have h1 := (S4.out.blk 0 rfl).cell 1; have hz := (S4.out.blk 0 rfl).lt; have q0 := (S4.out.blk 1 rfl).cell 0; have q1 := (S4.out.blk 1 rfl).cell 1; have q2 := (S4.out.blk 1 rfl).cell 2; have q3 := (S4.out.blk 1 rfl).cell 3; have qz := (S4.out.blk 1 rfl).lt
                  have g1 := hF.cell hcB.out
                  by_cases hjt : j < bn
                  · obtain ⟨u, d, hx, hu, h0, h2, hd, hB⟩ := WI.out j (by rw [← lB.out]; exact hjt)
                    have c1 := hF.cell (eB.out.cE hjt)
                    have c2 := hF.cell (eB.out.cE2 hjt)
                    have st := kB.out j (by rw [← lB.out]; exact hjt)
                    rw [hx] at c1 c2 st
                    simp only at c1 c2 st
                    have HX := HDu.out u hu
                    rw [hd, hB] at HX
                    have HXk := Lib.hid HX
                    have d3 : (0:Int) ≤ j := by omega
                    have d4 : (j:Int) < bn := by omega
                    have bj := bB.out j
                    have bl := lenB.out
                    rw [← lB.out] at bj
                    have HST := Lib.hid st
                    have S5 := Lib.hid (S4.out.al #[.int .i64 u, .int .i64 d] 54 wr.heap.size rfl)
                    have Z5 := Lib.hid (Ext.trans hF (Ext.alloc (Below.refl _ _) (.cells #[.int .i64 u, .int .i64 d] 54)))
                    have xg : (d != d) = false := by simp
                    clear st hx hd hB HX h0 h2
                    generalize selfN (b.take j) k = sj at *
                    by_cases huk : u = k
                    · have e1 : ((u:Int) == (k:Int)) = true := by rw [beq_iff_eq]; omega
                      rw [if_pos (by rw [huk])] at HST
                      clear huk
                      have HF := Lib.hid hF; clear hF
                      go_wp2_with (go_at_call 39; go_must (refine (HXk.out _ Z5.out).mono ?_; rintro e w6 ⟨rfl, hb⟩; have Z6 := Lib.hid (Ext.trans Z5.out hb); have S6 := Lib.hid (S5.out.call hb); have f0 := (S6.out.blk 0 rfl).cell 0; have f1 := (S6.out.blk 0 rfl).cell 1; have fz := (S6.out.blk 0 rfl).lt; clear hb))
                      go_roundw
                      case rel => exact ⟨j + 1, by omega, by rw [HST.out]; go_num, by go_num, Z6.out⟩
                      case measure => simp [intOf]; omega
                    · have e1 : ((u:Int) == (k:Int)) = false := by rw [beq_eq_false_iff_ne]; omega
                      rw [if_neg (by omega)] at HST
                      clear huk
                      have HF := Lib.hid hF; clear hF
                      go_wp2_with (go_at_call 39; go_must (refine (HXk.out _ Z5.out).mono ?_; rintro e w6 ⟨rfl, hb⟩; have Z6 := Lib.hid (Ext.trans Z5.out hb); have S6 := Lib.hid (S5.out.call hb); have f0 := (S6.out.blk 0 rfl).cell 0; have f1 := (S6.out.blk 0 rfl).cell 1; have fz := (S6.out.blk 0 rfl).lt; clear hb))
                      go_roundw
                      case rel => exact ⟨j + 1, by omega, by rw [HST.out]; go_num, by go_num, Z6.out⟩
                      case measure => simp [intOf]; omega
                  · obtain rfl : j = bn := by omega
                    have tB : selfN (b.take j) k = 1 := by rw [List.take_of_length_le (by rw [← lB.out]; exact Nat.le_refl _)]; exact HS.out.2
                    rw [tB]
                    clear tB
                    have HF2 := Lib.hid hF; clear hF
                    go_wp2
                    go_roundw
                    case rel => exact ⟨k + 1, by omega, by go_num, HF2.out⟩
                    case measure => simp [intOf]; omega
          · have HE := Lib.hid hE; clear hE
            go_wp2_with (go_at_call 28; go_must (refine (Labels12 _).mono ?_; rintro e w5 ⟨rfl, hb⟩; have S5 := Lib.hid (S2.out.call (Ext.trans HE.out hb)); clear hb))
            go_ret
            exact ⟨rfl, S5.out.ext⟩
end Go.Proofs.YthlmcfbadhidbaaGreat
