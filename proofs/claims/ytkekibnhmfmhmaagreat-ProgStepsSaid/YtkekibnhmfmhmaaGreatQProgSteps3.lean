/- Texts of this claim, one behind the other: Out4, Laid4, G2, G9, G11, GT, Big2, G10, Mk4, PlainR2, PlainN, PlainBy, Hp1, OwnSm, Hp3, KeepS, Pg2, PlainPq, Pq1, Pq2, Pg3, Pg4, Eq4, Pq3, Pq4, Pq5, NewAt, Rf6. -/
import Derived.OwnWalk
import Derived.Handy
import Derived.Deep.RegionHeld3
import Derived.Test.YtkekibnhmfmhmaaGreatQProgSteps2
/- The program's rows of a place: row, Out, In, Has. -/
namespace Go.Proofs.YtkekibnhmfmhmaaGreat
open Go Go.RowKit Go.Shelf Go.Lib
/-- is a place told, by these offsets? -/
def outB (b : Bool) (A : List Int) (v : Int) : Bool := b && decide (0 ≤ v) && decide (v < (A.length : Int) - 1)
def outL (b : Bool) (A B : List Int) (v : Int) : List Int := if outB b A v = true then rowL A B v.toNat else []
theorem outL_no {b : Bool} {A B : List Int} {v : Int} (h : outB b A v = false) : outL b A B v = [] := by unfold outL; rw [h]; rfl
theorem outL_yes {b : Bool} {A B : List Int} {v : Int} (h : outB b A v = true) : outL b A B v = rowL A B v.toNat := by unfold outL; rw [h]; rfl
theorem checkR_half {O T R V : List Int} (h : checkR O T R V = true) : O.length = R.length ∧ T.length = V.length ∧ halfB O T = true ∧ halfB R V = true := by
  unfold checkR at h
  simp only [Bool.and_eq_true, decide_eq_true_eq] at h
  exact ⟨h.1.1.1.1, h.1.1.1.2, h.1.1.2, h.1.2⟩
set_option maxRecDepth 100000 in
set_option maxHeartbeats 4000000 in
theorem rowG (po : Option Addr) (no co : Nat) (O : List Int) (pt : Option Addr) (nt ct : Nat) (T : List Int) (pr : Option Addr) (nr cr : Nat) (R : List Int) (pv : Option Addr) (nv cv : Nat) (V : List Int) (w : World) (pa : Option Addr) (na ca : Nat) (A : List Int) (pb : Option Addr) (nb cb : Nat) (B : List Int) (v : Int) (hO : Rd w 1 po no (encI O)) (hT : Rd w 1 pt nt (encI T)) (hR : Rd w 1 pr nr (encI R)) (hV : Rd w 1 pv nv (encI V)) (hct : nt ≤ ct) (hcv : nv ≤ cv) (hA : Rd w 1 pa na (encI A)) (hB : Rd w 1 pb nb (encI B)) (hcb : nb ≤ cb) (hAB : checkR O T R V = true → offB A B = true) :
    Calls Tryz.prog 84 #[.agg #[.slice po no co, .slice pt nt ct, .slice pr nr cr, .slice pv nv cv], .slice pa na ca, .slice pb nb cb, .int .i64 v] w fun e w' => ∃ q c, e = .returned (.tuple #[.slice q (outL (checkR O T R V) A B v).length c, .bool (outB (checkR O T R V) A v)]) ∧ Sep w w' [.own 3 1 q (outL (checkR O T R V) A B v).length c (encI (outL (checkR O T R V) A B v))] := by
  have na1 := hA.small
  have nb1 := hB.small
  have l1 := Lib.hid hA.nI
  have l2 := Lib.hid hB.nI
  have pA := hA.ptr
  have S0 := Lib.hid ((Sep.start w).al #[.slice po no co, .slice pt nt ct, .slice pr nr cr, .slice pv nv cv] 41 w.heap.size rfl)
  have HC := Lib.hid (fun W1 (h : Ext w W1) => CheckR po no co O pt nt ct T pr nr cr R pv nv cv V W1 (hO.ext h) (hT.ext h) (hR.ext h) (hV.ext h) hct hcv)
  clear hO hT hR hV
  cases hck : checkR O T R V with
  | false =>
    rw [hck] at HC
    have hno : outB false A v = false := rfl
    rw [outL_no hno, hno]
    clear hA hB hAB hck hno
    go_enter Tryz.func84, Tryz.ntmps84
    go_wp2_with (go_at_call 56; go_must (refine (HC.out _ S0.out.ext).mono ?_; rintro e w1 ⟨rfl, hb⟩; have S1 := Lib.hid (S0.out.call hb); clear hb))
    go_ret2
    exact ⟨none, 0, rfl, ((Sep.start w).call S1.out.ext).nilrow _ _⟩
  | true =>
    rw [hck] at HC
    have hof := hAB hck
    have HOK := offOk_of hof
    have w2 := HOK.two
    have hwd : withB ((na:Int) - 2) [v] = outB true A v := by
      unfold withB outB
      rw [← l1.out]
      simp
      by_cases h1 : 0 ≤ v <;> simp [h1] <;> omega
    have HW := Lib.hid (fun W1 : World => withinG ((na:Int) - 2) (some ⟨W1.heap.size, 0, none⟩) 1 1 [v] _ (Rd.oneI W1 3 v))
    rw [hwd] at HW
    have q0 : (2:Int) ≤ na := by have := l1.out; omega
    cases ho : outB true A v with
    | false =>
      rw [ho] at HW
      rw [outL_no ho]
      clear hA hB hAB hck HOK hof hwd ho
      go_enter Tryz.func84, Tryz.ntmps84
      go_wp2_with (first | (go_at_call 120; go_must (refine (HW.out _).mono ?_; rintro e w2 ⟨rfl, rfl⟩)) | (go_at_call 56; go_must (refine (HC.out _ S0.out.ext).mono ?_; rintro e w1 ⟨rfl, hb⟩; have S1 := Lib.hid (S0.out.call hb); clear hb)))
      go_ret2
      exact ⟨none, 0, rfl, ((((Sep.start w).call S1.out.ext).junk _)).nilrow _ _⟩
    | true =>
      rw [ho] at HW
      have ho2 := ho
      unfold outB at ho2
      simp only [Bool.true_and, Bool.and_eq_true, decide_eq_true_eq] at ho2
      obtain ⟨v1, v2⟩ := ho2
      rw [outL_yes ho]
      obtain ⟨k, rfl⟩ : ∃ k : Nat, v = (k : Int) := ⟨v.toNat, by omega⟩
      rw [Int.toNat_natCast]
      have hk1 : k + 1 < A.length := by omega
      have q1 := HOK.lo k (by omega)
      have q2 := HOK.le k hk1
      have q3 := HOK.hi (k + 1) hk1
      have hrl := rowL_len HOK hk1
      have RL0 := hB.rowOf HOK hcb hk1
      have HA := Lib.hid hA
      obtain ⟨a, ha⟩ : ∃ a : Nat, nth A k = (a : Int) := ⟨(nth A k).toNat, by omega⟩
      obtain ⟨c, hc⟩ : ∃ c : Nat, nth A (k + 1) = (c : Int) := ⟨(nth A (k + 1)).toNat, by omega⟩
      rw [ha] at q1 q2 hrl RL0
      rw [hc] at q2 q3 hrl RL0
      simp only [Int.toNat_natCast] at hrl RL0
      have hq3 : (c:Int) ≤ cb := by have := l2.out; omega
      have hlen := (offB_parts hof).2.2.1
      have HLEN : Hid (c - a ≤ 100000) := by unfold Hid; have := l2.out; omega
      have d1 : (0:Int) ≤ k := by omega
      have d2 : (k:Int) < na := by have := l1.out; omega
      have d3 : (0:Int) ≤ (k:Int) + 1 := by omega
      have d4 : (k:Int) + 1 < na := by have := l1.out; omega
      have G1 : Hid (∀ W, Ext w W → W.cell? (adr pa k) = some (.int .i64 a) ∧ W.cell? (adr pa (k + 1)) = some (.int .i64 c)) := fun W h => by
        have h1 := (HA.out.ext h).cI (k := k) (by omega)
        have h2 := (HA.out.ext h).cI (k := k + 1) (by omega)
        rw [ha] at h1; rw [hc] at h2; exact ⟨h1, h2⟩
      have HRL := Lib.hid hrl
      have RL := Lib.hid RL0
      clear hA hB hAB hck HOK hof hwd ho ha hc v1 v2 hk1 q3 hrl RL0 hlen HA
      rw [HRL.out]
      go_enter Tryz.func84, Tryz.ntmps84
      go_wp2_with (first | (go_at_call 120; go_must (refine (HW.out _).mono ?_; rintro e w2 ⟨rfl, rfl⟩; obtain ⟨g1, g2⟩ := G1.out _ (S1.out.junk (.cells #[.int .i64 k] 3)).ext)) | (go_at_call 56; go_must (refine (HC.out _ S0.out.ext).mono ?_; rintro e w1 ⟨rfl, hb⟩; have S1 := Lib.hid (S0.out.call hb); clear hb)))
      obtain ⟨X, hX⟩ : ∃ X, X = w1.alloc (.cells #[.int .i64 (k:Int)] 3) := ⟨_, rfl⟩
      have SX := Lib.hid (hX ▸ (S1.out.junk (.cells #[.int .i64 (k:Int)] 3)) : Sep w X _)
      rw [← hX] at g1 g2 ⊢
      have x1 := fun x : ExtOf X => x.ext.cell g1
      have x2 := fun x : ExtOf X => x.ext.cell g2
      refine wp_region_mix [true, true, true, true, true, true, true, true, true, true, true, false] (fun _ u W => ∃ q d, u = .slice q (c - a) d ∧ W.ownsRow X.heap.size 3 1 (.slice q (c - a) d) (c - a) (encI (rowL A B k))) (by kernel_rfl) (by kernel_rfl) (by kernel_rfl) (fun _ _ _ _ hE ⟨p, d, h1, h2⟩ => ⟨p, d, h1, hE.own h2⟩) ?_
      simp only [nfM]
      repeat (go_big_quiet_step ((fail)))
      refine wpQuiet_nil ⟨⟨fun vs W hE hd => ?_, trivial⟩, fun vs W hE hkn => ?_⟩
      · simp [putM, go_sem]
        exact (CloneI _ (c - a) _ (rowL A B k) W (RL.out.ext (Ext.trans SX.out.ext hE)) HLEN.out).mono fun e w' ⟨q, d, h1, S⟩ => ⟨_, h1, ⟨q, d, rfl, own_base (S.own 0 rfl) hE.size⟩, S.ext⟩
      · obtain ⟨⟨q, d, hv, hown⟩, _⟩ := hkn
        have S5 := Lib.hid (SX.out.fresh hE hown (Nat.le_refl _))
        simp only [putM, hv, List.length_cons, List.length_nil, Nat.zero_add, Nat.reduceAdd, List.drop_succ_cons, List.drop_zero]
        clear x1 x2 g1 g2 hv hown hE hX
        go_wp2
        go_ret2
        exact ⟨q, d, rfl, S5.out.pick [0] (by decide) rfl⟩
theorem OutG (po : Option Addr) (no co : Nat) (O : List Int) (pt : Option Addr) (nt ct : Nat) (T : List Int) (pr : Option Addr) (nr cr : Nat) (R : List Int) (pv : Option Addr) (nv cv : Nat) (V : List Int) (w : World) (v : Int) (hO : Rd w 1 po no (encI O)) (hT : Rd w 1 pt nt (encI T)) (hR : Rd w 1 pr nr (encI R)) (hV : Rd w 1 pv nv (encI V)) (hct : nt ≤ ct) (hcv : nv ≤ cv) : Calls Tryz.prog 54 #[.agg #[.slice po no co, .slice pt nt ct, .slice pr nr cr, .slice pv nv cv], .int .i64 v] w fun e w' => ∃ q c, e = .returned (.tuple #[.slice q (outL (checkR O T R V) O T v).length c, .bool (outB (checkR O T R V) O v)]) ∧ Sep w w' [.own 3 1 q (outL (checkR O T R V) O T v).length c (encI (outL (checkR O T R V) O T v))] := by
  have S0 := Lib.hid ((Sep.start w).al #[.slice po no co, .slice pt nt ct, .slice pr nr cr, .slice pv nv cv] 41 w.heap.size rfl)
  have HR := Lib.hid (fun W1 (h : Ext w W1) => rowG po no co O pt nt ct T pr nr cr R pv nv cv V W1 po no co O pt nt ct T v (hO.ext h) (hT.ext h) (hR.ext h) (hV.ext h) hct hcv (hO.ext h) (hT.ext h) hct (fun h => halfB_off (checkR_half h).2.2.1))
  clear hO hT hR hV
  go_enter Tryz.func54, Tryz.ntmps54
  go_wp2_with (go_at_call 84; go_must (refine (HR.out _ S0.out.ext).mono ?_; rintro e w1 ⟨q, c, rfl, T⟩; have S1 := Lib.hid (S0.out.comp T); clear T))
  go_ret2
  exact ⟨q, c, rfl, S1.out.pick [0] (by decide) rfl⟩
theorem InG (po : Option Addr) (no co : Nat) (O : List Int) (pt : Option Addr) (nt ct : Nat) (T : List Int) (pr : Option Addr) (nr cr : Nat) (R : List Int) (pv : Option Addr) (nv cv : Nat) (V : List Int) (w : World) (v : Int) (hO : Rd w 1 po no (encI O)) (hT : Rd w 1 pt nt (encI T)) (hR : Rd w 1 pr nr (encI R)) (hV : Rd w 1 pv nv (encI V)) (hct : nt ≤ ct) (hcv : nv ≤ cv) : Calls Tryz.prog 55 #[.agg #[.slice po no co, .slice pt nt ct, .slice pr nr cr, .slice pv nv cv], .int .i64 v] w fun e w' => ∃ q c, e = .returned (.tuple #[.slice q (outL (checkR O T R V) R V v).length c, .bool (outB (checkR O T R V) R v)]) ∧ Sep w w' [.own 3 1 q (outL (checkR O T R V) R V v).length c (encI (outL (checkR O T R V) R V v))] := by
  have S0 := Lib.hid ((Sep.start w).al #[.slice po no co, .slice pt nt ct, .slice pr nr cr, .slice pv nv cv] 41 w.heap.size rfl)
  have HR := Lib.hid (fun W1 (h : Ext w W1) => rowG po no co O pt nt ct T pr nr cr R pv nv cv V W1 pr nr cr R pv nv cv V v (hO.ext h) (hT.ext h) (hR.ext h) (hV.ext h) hct hcv (hR.ext h) (hV.ext h) hcv (fun h => halfB_off (checkR_half h).2.2.2))
  clear hO hT hR hV
  go_enter Tryz.func55, Tryz.ntmps55
  go_wp2_with (go_at_call 84; go_must (refine (HR.out _ S0.out.ext).mono ?_; rintro e w1 ⟨q, c, rfl, T⟩; have S1 := Lib.hid (S0.out.comp T); clear T))
  go_ret2
  exact ⟨q, c, rfl, S1.out.pick [0] (by decide) rfl⟩
/-- is there an edge? -/
def hasB (b : Bool) (A B : List Int) (v u : Int) : Bool := outB b A v && inB (outL b A B v) u
theorem outL_len {O T R V A B : List Int} {v : Int} (hB : B.length ≤ 9223372036854775807) : (outL (checkR O T R V) A B v).length ≤ 9223372036854775807 := by
  unfold outL
  split
  · unfold rowL; rw [List.length_take, List.length_drop]; omega
  · simp
end Go.Proofs.YtkekibnhmfmhmaaGreat
/- The program's rows of a graph: laid. -/
namespace Go.Proofs.YtkekibnhmfmhmaaGreat
open Go Go.RowKit Go.Shelf Go.Lib
theorem encI_set (l : List Int) (k : Nat) (x : Int) : (encI l).set k (.int .i64 x) = encI (l.set k x) := by simp [encI, List.map_set]
theorem made_encI (n : Nat) : (madeCells (Value.int .i64 0).cells (n * 1)).toList = encI (List.replicate n 0) := by
  apply List.ext_getElem
  · simp [madeCells, encI]
  · intro i h1 h2
    simp [madeCells, encI, Value.cells, Nat.mod_one]
theorem cntL_nil (n : Nat) : cntL n [] = List.replicate (n + 1) 0 := by
  apply List.ext_getElem
  · simp [cntL]
  · intro i h1 h2
    simp [cntL]
theorem Rd.oneIat (w : World) (t : TypeId) (a : Int) (b : Nat) (h : w.heap.size = b) : Rd (w.alloc (.cells #[.int .i64 a] t)) 1 (some ⟨b, 0, none⟩) 1 (encI [a]) := by subst h; exact Rd.oneI w t a
/-- 'make' of a row, as a piece -/
theorem wpList_make_sep {P : Program} {w0 w : World} {Γ : List Pc} {ops : Array Oper} {rest : List Oper} {o : Oper} {a : Act} {Q : Exit → Act → World → Prop}
    (hg : o.guard = none) (l c : Operand) (t : TypeId) (hop : o.op = Op.makeSlice t l c)
    (e : TypeId) (i : TypeInfo) (z : Value) (size : Nat) (h1 : P.underlying t = some (.slice e)) (h2 : P.info? e = some i) (h3 : i.zero = some z) (h4 : i.size = size)
    (L : Int) (n : Nat) (hl : a.eval l = .int .i64 L) (hc : a.eval c = .int .i64 L) (hL : L = (n : Int)) (b2 : i.bytes * n ≤ 281474976710656) (b3 : n ≤ maxLen) (S : Sep w0 w Γ)
    (hK : ∀ w', Sep w0 w' (.own e size (some ⟨w.heap.size, 0, none⟩) n n (madeCells z.cells (n * size)).toList :: Γ) → wpList P ops Q rest (a.put o.dst (.slice (some ⟨w.heap.size, 0, none⟩) n n)) w') :
    wpList P ops Q (o :: rest) a w :=
  wpList_make_full w hg l c t hop w.heap.size e i z size h1 h2 h3 h4 .i64 .i64 L L n hl hc hL hL b2 b3 (Nat.le_refl _) fun w' ho hgr =>
    hK w' (S.fresh ⟨hgr.os, hgr.tape, hgr.output, hgr.size, fun k hk => hgr.block k hk (by simp)⟩ ho (Nat.le_refl _))
set_option maxRecDepth 100000 in
set_option maxHeartbeats 4000000 in
theorem laidG (n : Nat) (p : Option Addr) (m c : Nat) (E : List (Int × Int)) (w : World) (hE : Rd w 2 p m (encE E)) (hn : n ≤ 200) (hm : m ≤ 2000) (hb : ∀ x ∈ E, 0 ≤ x.1 ∧ x.1 < n) :
    Calls Tryz.prog 104 #[.int .i64 n, .slice p m c] w fun e w' => ∃ qo co qt ct, e = .returned (.tuple #[.slice qo (n + 1) co, .slice qt m ct]) ∧ Sep w w' [.own 3 1 qt m ct (encI (toL E)), .own 3 1 qo (n + 1) co (encI (offL n E))] := by
  obtain ⟨i0, hi0, hz0, hz1, hz2⟩ := info_parts infI
  have p1 := hE.ptr
  have L1 := Lib.hid hE.nE
  have HB := Lib.hid hb
  clear hb
  have HE := Lib.hid hE; clear hE
  go_enter Tryz.func104, Tryz.ntmps104
  go_wp2_with (at_make; go_must (refine wpList_make_sep rfl _ _ _ rfl 3 i0 _ 1 Tryz.underlying39 hi0 hz0 hz1 ((n:Int) + 1) (n + 1) rfl rfl (by omega) (by rw [hz2]; omega) (by unfold maxLen; omega) (Sep.start w) ?_; intro w1 S'; rw [made_encI, ← cntL_nil] at S'; have S1 := Lib.hid S'; clear S'))
  generalize hqo : (some ⟨w.heap.size, 0, none⟩ : Option Addr) = qo at *
  clear hqo
  go_loopw [5, 7, 14] (fun t _ i wr => ∃ (k : Nat) (q : Option Addr) (d : Nat), k ≤ m ∧ i = .int .i64 k ∧ t = .slice q k d ∧ Sep w wr [.own 3 1 q k d (encI (toL (E.take k))), .own 3 1 qo (n + 1) (n + 1) (encI (cntL n (E.take k)))]) (fun _ _ i _ => m - (intOf i).toNat)
  case atStart => exact ⟨0, none, 0, Nat.zero_le _, rfl, rfl, S1.out.nilrow _ _⟩
  case round =>
    clear S1
    obtain ⟨k, q, d, hk, rfl, rfl, S⟩ := hrel
    by_cases hlt : k < m
    · have hkE : k < E.length := by rw [← L1.out]; exact hlt
      have e1 := S.ext.cell (HE.out.cE hlt)
      have e2 := S.ext.cell (HE.out.cE2 hlt)
      obtain ⟨b1, b2⟩ := HB.out _ (nth_mem hkE)
      obtain ⟨f, hf⟩ : ∃ f : Nat, (nth E k).1 = (f : Int) := ⟨(nth E k).1.toNat, by omega⟩
      have HT : Hid (toL (E.take (k + 1)) = toL (E.take k) ++ [(nth E k).2]) := by unfold Hid toL; rw [map_take_succ _ E k hkE]
      have HC : Hid (cntL n (E.take (k + 1)) = (cntL n (E.take k)).set (f + 1) (nth (cntL n (E.take k)) (f + 1) + 1)) := by
        unfold Hid; rw [take_succ_nth E k hkE]; exact cntL_step _ _ hf (by omega)
      rw [hf] at e1 b1 b2
      have c1 := (S.rd 1 rfl (by omega)).cI (k := f + 1) (by omega)
      have po := (S.rd 1 rfl (by omega)).ptr
      have fz := own_frozen (S.own 1 rfl) (by omega) (f + 1)
      have zz : (adr qo (f + 1)).block < wr.heap.size := (S.blt 1 rfl (by omega)).2
      have y0 : adr qo (f + 1) ≠ ⟨wr.heap.size, 1, none⟩ := fun e => by
        have e2 : (adr qo (f + 1)).block = wr.heap.size := by rw [e]
        omega
      have y1 : (⟨wr.heap.size, 1, none⟩ : Addr) ≠ adr qo (f + 1) := fun e => y0 e.symm
      have d1 : (0:Int) ≤ k := by omega
      have d2 : (k:Int) < m := by omega
      have d3 : (0:Int) ≤ (f:Int) + 1 := by omega
      have d4 : (f:Int) + 1 < ((n + 1 : Nat) : Int) := by omega
      have hcb : nth (cntL n (E.take k)) (f + 1) ≤ 2000 ∧ 0 ≤ nth (cntL n (E.take k)) (f + 1) := by
        rw [cntL_nth _ (by omega)]
        have h1 := List.countP_le_length (p := fun x : Int × Int => decide (x.1 + 1 = ((f + 1 : Nat):Int))) (l := E.take k)
        rw [List.length_take] at h1
        omega
      obtain ⟨u, hu⟩ : ∃ u, nth (cntL n (E.take k)) (f + 1) = u := ⟨_, rfl⟩
      rw [hu] at c1 hcb HC
      have SH := Lib.hid S; clear S
      clear hf hu hkE
      have SX := Lib.hid ((SH.out.junk (.cells #[.int .i64 (f:Int), .int .i64 (nth E k).2] 108)).setRow 1 rfl (f + 1) (by omega) (.int .i64 (u + 1)))
      go_wp2_with (at_builtin; go_must (refine wpList_append_sep rfl _ _ _ rfl 3 i0 _ 1 8 Tryz.underlying39 hi0 hz0 hz1 hz2 rfl (by omega) (SX.out.junk _) 0 q k d _ rfl rfl _ 1 1 _ rfl (Rd.oneIat _ _ _ _ (by simp [World.setCell])) (one_encI _) (by omega) (by omega) ?_; intro q' d' w' S' hsz; have S5 := Lib.hid S'; clear S' hsz))
      go_roundw
      case rel => exact ⟨k + 1, q', d', by omega, by go_num, rfl, by rw [HT.out, HC.out, encI_append, ← encI_set]; exact S5.out⟩
      case measure => simp [intOf]; omega
    · obtain rfl : k = m := by omega
      have HT : Hid (E.take k = E) := by unfold Hid; rw [List.take_of_length_le (by rw [← L1.out]; omega)]
      rw [HT.out, ← sumL_zero (fun x hx => (HB.out x hx).1)] at S
      have SH := Lib.hid S; clear S
      go_wp2
      go_loopw [8, 33] (fun _ i wr => ∃ v : Nat, v ≤ n ∧ i = .int .i64 v ∧ Sep w wr [.own 3 1 q k d (encI (toL E)), .own 3 1 qo (n + 1) (n + 1) (encI (sumL n E v))]) (fun _ i _ => n - (intOf i).toNat)
      case atStart => exact ⟨0, Nat.zero_le _, rfl, SH.out⟩
      case round =>
        clear SH
        obtain ⟨v, hv, rfl, S⟩ := hrel
        by_cases hlv : v < n
        · have c0 := (S.rd 1 rfl (by omega)).cI (k := v) (by omega)
          have c1 := (S.rd 1 rfl (by omega)).cI (k := v + 1) (by omega)
          have po := (S.rd 1 rfl (by omega)).ptr
          have fz := own_frozen (S.own 1 rfl) (by omega) (v + 1)
          have HC := Lib.hid (sumL_step E hlv)
          have bnd : ∀ j, j < n + 1 → 0 ≤ nth (sumL n E v) j ∧ nth (sumL n E v) j ≤ 2000 := fun j hj => by
            rw [sumL_nth _ hj]
            have := L1.out
            split
            · have h1 := List.countP_le_length (p := fun x : Int × Int => decide (x.1 < (j:Int))) (l := E)
              omega
            · have h1 := List.countP_le_length (p := fun x : Int × Int => decide (x.1 + 1 = (j:Int))) (l := E)
              omega
          have bd0 := bnd v (by omega)
          have bd1 := bnd (v + 1) (by omega)
          generalize nth (sumL n E v) v = x0 at *
          generalize nth (sumL n E v) (v + 1) = x1 at *
          have d1 : (0:Int) ≤ v := by omega
          have d2 : (v:Int) < n := by omega
          have d3 : (0:Int) ≤ (v:Int) + 1 := by omega
          have d4 : (v:Int) + 1 < ((n + 1 : Nat) : Int) := by omega
          have d5 : (v:Int) < ((n + 1 : Nat) : Int) := by omega
          clear bnd
          have SH := Lib.hid S; clear S
          go_wp2
          have y0 := fun x : ExtOf wr => x.ext.cell c0
          have y1 := fun x : ExtOf wr => x.ext.cell c1
          refine wp_region_mix [true, true, true, true, true, true, true, true, true, true, true] (fun _ _ _ => True) (by kernel_rfl) (by kernel_rfl) (by kernel_rfl) (fun _ _ _ _ _ h => h) ?_
          simp only [nfM]
          repeat (go_big_quiet_step ((fail)))
          refine wpQuiet_nil ⟨trivial, fun vs W1 hE _ => ?_⟩
          have S2 := SH.out.call hE
          have po2 := (S2.rd 1 rfl (by omega)).ptr
          have fz2 := own_frozen (S2.own 1 rfl) (by omega) (v + 1)
          have k1 := hE.cell c1
          have S3 := Lib.hid (S2.setRow 1 rfl (v + 1) (by omega) (.int .i64 (x1 + x0)))
          clear S2 y0 y1 c0 c1 fz
          simp only [putM, List.length_cons, List.length_nil, Nat.zero_add, Nat.reduceAdd, List.drop_succ_cons, List.drop_zero]
          go_wp2
          go_roundw
          case rel => exact ⟨v + 1, by omega, by go_num, by rw [HC.out, ← encI_set]; exact S3.out⟩
          case measure => simp [intOf]; omega
        · obtain rfl : v = n := by omega
          rw [sumL_end] at S
          have SH := Lib.hid S; clear S
          go_wp2
          go_ret2
          exact ⟨qo, _, q, d, rfl, SH.out⟩
end Go.Proofs.YtkekibnhmfmhmaaGreat
namespace Go.Proofs.YtkekibnhmfmhmaaGreat
open Go Go.RowKit
set_option maxRecDepth 100000 in
set_option maxHeartbeats 1000000 in
theorem CheckG (N : Int) (pe : Option Addr) (ne ce : Nat) (pw : Option Addr) (nw cw : Nat) (E : List (Int × Int)) (hs : List Hd) (W : List (List ByteArray)) (w : World) (hE : Rd w 2 pe ne (encE E)) (hW : RdW w pw nw hs W) (hz : SzW W) :
    Calls Tryz.prog 134 #[.agg #[.int .i64 N, .slice pe ne ce, .slice pw nw cw]] w fun e w' => e = .returned (.bool (checkB N E W)) ∧ Ext w w' := by
  have p1 := hE.ptr
  have p2 := hW.row.ptr
  have n1 := hE.small
  have n2 := hW.row.small
  have l1 := hE.nE
  have l2 := hW.nW
  have HE := Lib.hid hE; clear hE
  have HW := Lib.hid hW; clear hW
  have HZ := Lib.hid hz; clear hz
  by_cases hpre : 1 ≤ N ∧ N ≤ 200 ∧ ne ≤ 2000 ∧ (nw : Int) = N
  · obtain ⟨c1, c2, c3, rfl⟩ := hpre
    have YES : ∀ (h5 : E.all (edgeOk nw) = true) (h6 : W.all rowOk = true), checkB nw E W = true := checkB_yes c1 c2 (by omega) (by omega)
    have L1 := Lib.hid l1; clear l1
    have L2 := Lib.hid l2; clear l2
    have HY := Lib.hid YES; clear YES
    have t1 : ((nw : Int) != (nw : Int)) = false := by simp
    go_enter Tryz.func134, Tryz.ntmps134
    go_wp2
    go_loopw [4, 32] (fun _ i wr => ∃ k : Nat, k ≤ ne ∧ i = .int .i64 k ∧ (E.take k).all (edgeOk nw) = true ∧ Ext w wr ∧ GBox wr w.heap.size (nw : Int) pe ne ce pw nw cw) (fun _ i _ => ne - (intOf i).toNat)
    case atStart => exact ⟨0, Nat.zero_le _, rfl, rfl, (Below.refl _ _).alloc (Nat.le_refl _) _, GBox.new _ _⟩
    case round =>
      obtain ⟨k, hk, rfl, ha, hb, gb1⟩ := hrel
      have HA := Lib.hid ha; clear ha
      have HB := Lib.hid hb; clear hb
      have G1 := Lib.hid gb1
      obtain ⟨b0, b1, b2⟩ := gb1
      have z0 : w.heap.size < wr.heap.size := World.block_lt_of_cell? wr _ b0
      by_cases hlt : k < ne
      · have g1 := HB.out.cell (HE.out.cE hlt)
        have g2 := HB.out.cell (HE.out.cE2 hlt)
        by_cases hok : 0 ≤ (nth E k).1 ∧ (nth E k).1 < nw ∧ 0 ≤ (nth E k).2 ∧ (nth E k).2 < nw
        · have HO : Hid (edgeOk nw (nth E k) = true) := by unfold Hid edgeOk; exact decide_eq_true hok
          obtain ⟨o1, o2, o3, o4⟩ := hok
          go_wp2_with (first | (go_at_call 152; have _t := F1; refine (isPlaceG _ _ _ _ _ _ _ _ _).mono ?_; rintro e w3 ⟨rfl, hb3⟩; have F2 := Lib.hid (Ext.trans F1.out hb3); clear hb3) | (go_at_call 152; refine (isPlaceG _ _ _ _ _ _ _ _ _).mono ?_; rintro e w2 ⟨rfl, hb2⟩; have F1 := Lib.hid (Ext.trans (Ext.alloc (Below.refl wr.heap.size wr) _) hb2); have b0' := Ext.cell F1.out b0; have b1' := Ext.cell F1.out b1; have b2' := Ext.cell F1.out b2; have x0 := Ext.cell hb2 (cellnew0 _ _ _ _); have x1 := Ext.cell hb2 (cellnew1 _ _ _ _ _); clear hb2))
          go_roundw
          case rel => exact ⟨k + 1, by omega, by go_num, all_step _ _ _ (by rw [← L1.out]; exact hlt) HA.out HO.out, Ext.trans HB.out F2.out, G1.out.ext F2.out⟩
          case measure => simp [intOf]; omega
        · have HO : Hid (edgeOk nw (nth E k) = false) := by unfold Hid edgeOk; exact decide_eq_false hok
          have HF := Lib.hid (checkB_E (W := W) (by rw [← L1.out]; exact hlt) HO.out)
          clear HO
          by_cases o1 : 0 ≤ (nth E k).1
          · by_cases o2 : (nth E k).1 < nw
            · by_cases o3 : 0 ≤ (nth E k).2
              · have o4 : (nw : Int) ≤ (nth E k).2 := Int.not_lt.1 fun h => hok ⟨o1, o2, o3, h⟩
                have o5 : decide ((nth E k).2 < (nw : Int)) = false := by simp; omega
                clear hok
                go_wp2_with (first | (go_at_call 152; have _t := F1; refine (isPlaceG _ _ _ _ _ _ _ _ _).mono ?_; rintro e w3 ⟨rfl, hb3⟩; have F2 := Lib.hid (Ext.trans F1.out hb3); clear hb3) | (go_at_call 152; refine (isPlaceG _ _ _ _ _ _ _ _ _).mono ?_; rintro e w2 ⟨rfl, hb2⟩; have F1 := Lib.hid (Ext.trans (Ext.alloc (Below.refl wr.heap.size wr) _) hb2); have b0' := Ext.cell F1.out b0; have b1' := Ext.cell F1.out b1; have b2' := Ext.cell F1.out b2; have x0 := Ext.cell hb2 (cellnew0 _ _ _ _); have x1 := Ext.cell hb2 (cellnew1 _ _ _ _ _); clear hb2))
                go_ret
                exact ⟨ret_bool HF.out.symm, Ext.trans HB.out F2.out⟩
              · have o5 : decide (0 ≤ (nth E k).2) = false := by simp; omega
                clear hok
                go_wp2_with (first | (go_at_call 152; have _t := F1; refine (isPlaceG _ _ _ _ _ _ _ _ _).mono ?_; rintro e w3 ⟨rfl, hb3⟩; have F2 := Lib.hid (Ext.trans F1.out hb3); clear hb3) | (go_at_call 152; refine (isPlaceG _ _ _ _ _ _ _ _ _).mono ?_; rintro e w2 ⟨rfl, hb2⟩; have F1 := Lib.hid (Ext.trans (Ext.alloc (Below.refl wr.heap.size wr) _) hb2); have b0' := Ext.cell F1.out b0; have b1' := Ext.cell F1.out b1; have b2' := Ext.cell F1.out b2; have x0 := Ext.cell hb2 (cellnew0 _ _ _ _); have x1 := Ext.cell hb2 (cellnew1 _ _ _ _ _); clear hb2))
                go_ret
                exact ⟨ret_bool HF.out.symm, Ext.trans HB.out F2.out⟩
            · have o5 : decide ((nth E k).1 < (nw : Int)) = false := by simp; omega
              clear hok
              go_wp2_with (first | (go_at_call 152; have _t := F1; refine (isPlaceG _ _ _ _ _ _ _ _ _).mono ?_; rintro e w3 ⟨rfl, hb3⟩; have F2 := Lib.hid (Ext.trans F1.out hb3); clear hb3) | (go_at_call 152; refine (isPlaceG _ _ _ _ _ _ _ _ _).mono ?_; rintro e w2 ⟨rfl, hb2⟩; have F1 := Lib.hid (Ext.trans (Ext.alloc (Below.refl wr.heap.size wr) _) hb2); have b0' := Ext.cell F1.out b0; have b1' := Ext.cell F1.out b1; have b2' := Ext.cell F1.out b2; have x0 := Ext.cell hb2 (cellnew0 _ _ _ _); have x1 := Ext.cell hb2 (cellnew1 _ _ _ _ _); clear hb2))
              go_ret
              exact ⟨ret_bool HF.out.symm, Ext.trans HB.out F1.out⟩
          · have o5 : decide (0 ≤ (nth E k).1) = false := by simp; omega
            clear hok
            go_wp2_with (first | (go_at_call 152; have _t := F1; refine (isPlaceG _ _ _ _ _ _ _ _ _).mono ?_; rintro e w3 ⟨rfl, hb3⟩; have F2 := Lib.hid (Ext.trans F1.out hb3); clear hb3) | (go_at_call 152; refine (isPlaceG _ _ _ _ _ _ _ _ _).mono ?_; rintro e w2 ⟨rfl, hb2⟩; have F1 := Lib.hid (Ext.trans (Ext.alloc (Below.refl wr.heap.size wr) _) hb2); have b0' := Ext.cell F1.out b0; have b1' := Ext.cell F1.out b1; have b2' := Ext.cell F1.out b2; have x0 := Ext.cell hb2 (cellnew0 _ _ _ _); have x1 := Ext.cell hb2 (cellnew1 _ _ _ _ _); clear hb2))
            go_ret
            exact ⟨ret_bool HF.out.symm, Ext.trans HB.out F1.out⟩
      · have HEE := Lib.hid (all_end _ _ _ (by rw [← L1.out]; exact hlt) HA.out)
        go_wp2
        clear hlt HA hk
        obtain ⟨wo, rfl⟩ : ∃ wo : World, wo = wr := ⟨_, rfl⟩
        go_loop [6, 52] (fun _ i => ∃ k : Nat, k ≤ nw ∧ i = .int .i64 k ∧ (W.take k).all rowOk = true) (fun _ i => nw - (intOf i).toNat)
        case atStart => exact ⟨0, Nat.zero_le _, rfl, rfl⟩
        case round =>
          obtain ⟨k, hk, rfl, ha⟩ := hrel
          have HA := Lib.hid ha; clear ha
          by_cases hlt : k < nw
          · have g1 := HB.out.cell (HW.out.row.cH hlt)
            have q1 := (HW.out.each k hlt).ext HB.out
            have l3 := q1.nS
            have Q1 := Lib.hid q1; clear q1
            have L3 := Lib.hid l3; clear l3
            have hsz := Lib.hid (HZ.out (nth W k) (by rw [nth_eq (by rw [← L2.out]; exact hlt)]; exact List.getElem_mem _))
            by_cases h8 : (nth hs k).n ≤ 8
            · by_cases hw : (nth W k).any (fun s => !wordB s) = true
              · have HF := Lib.hid (checkB_W (N := nw) (E := E) (k := k) (W := W) (by rw [← L2.out]; exact hlt) (by unfold rowOk; rw [show (nth W k).all wordB = false from by rw [← Bool.not_eq_true, List.all_eq_not_any_not, hw]; simp]; rfl))
                go_wp2_with (go_at_call 63; refine (ContainsWord _ _ _ _ _ Q1.out hsz.out).mono ?_; rintro e w' ⟨rfl, rfl⟩)
                go_ret
                exact ⟨ret_bool HF.out.symm, HB.out⟩
              · have hw' : (nth W k).any (fun s => !wordB s) = false := by simpa using hw
                have HW' := Lib.hid hw'
                clear hw
                go_wp2_with (go_at_call 63; refine (ContainsWord _ _ _ _ _ Q1.out hsz.out).mono ?_; rintro e w' ⟨rfl, rfl⟩)
                go_round
                case rel => exact ⟨k + 1, by omega, by go_num, all_step _ _ _ (by rw [← L2.out]; exact hlt) HA.out (by unfold rowOk; rw [List.all_eq_not_any_not, HW'.out, ← L3.out]; simp [h8])⟩
                case measure => simp [intOf]; omega
            · have HF := Lib.hid (checkB_W (N := nw) (E := E) (k := k) (W := W) (by rw [← L2.out]; exact hlt) (by unfold rowOk; rw [← L3.out]; simp [h8]))
              go_wp2
              go_ret
              exact ⟨ret_bool HF.out.symm, HB.out⟩
          · have HR := Lib.hid (all_end _ _ _ (by rw [← L2.out]; exact hlt) HA.out)
            go_wp2
            go_ret
            exact ⟨ret_bool (HY.out HEE.out HR.out).symm, HB.out⟩
  · have HF := Lib.hid (checkB_pre (N := N) (E := E) (W := W) (by rw [← l1, ← l2]; exact hpre))
    clear l1 l2 HE HW HZ p1 p2
    have h1 : ∀ o1 : Obj, Ext w (w.alloc o1) := fun o1 => (Below.refl _ _).alloc (Nat.le_refl _) _
    by_cases c1 : 1 ≤ N
    · by_cases c2 : N ≤ 200
      · by_cases c3 : ne ≤ 2000
        · have c4 : ((nw : Int) != N) = true := by rw [bne_iff_ne]; exact fun h => hpre ⟨c1, c2, c3, h⟩
          clear hpre
          go_enter Tryz.func134, Tryz.ntmps134
          go_wp2
          go_ret
          exact ⟨ret_bool HF.out.symm, h1 _⟩
        · clear hpre
          go_enter Tryz.func134, Tryz.ntmps134
          go_wp2
          go_ret
          exact ⟨ret_bool HF.out.symm, h1 _⟩
      · clear hpre
        go_enter Tryz.func134, Tryz.ntmps134
        go_wp2
        go_ret
        exact ⟨ret_bool HF.out.symm, h1 _⟩
    · clear hpre
      go_enter Tryz.func134, Tryz.ntmps134
      go_wp2
      go_ret
      exact ⟨ret_bool HF.out.symm, h1 _⟩
end Go.Proofs.YtkekibnhmfmhmaaGreat
/- The program's Normal: a graph in memory of its own. -/
namespace Go.Proofs.YtkekibnhmfmhmaaGreat
open Go Go.RowKit Go.Shelf Go.Lib Go.Sort
theorem allLt_zero {p : Nat → Prop} : ∀ i, i < 0 → p i := fun i h => absurd h (Nat.not_lt_zero i)
theorem allLt_succ {n : Nat} {p : Nat → Prop} (h : ∀ i, i < n → p i) (hn : p n) : ∀ i, i < n + 1 → p i := fun i hi => by
  rcases Nat.lt_or_ge i n with h1 | h1
  · exact h i h1
  · obtain rfl : i = n := by omega
    exact hn
/-- a graph in memory of the call's own -/
def GraphO (w : World) (base : Nat) (v : Value) (N : Int) (E : List (Int × Int)) (W : List (List ByteArray)) : Prop :=
  ∃ pe ce pw cw hs, v = .agg #[.int .i64 N, .slice pe E.length ce, .slice pw W.length cw] ∧ w.ownsRow base 108 2 (.slice pe E.length ce) E.length (encE E) ∧ OwnW w base pw W.length cw hs W
set_option maxRecDepth 100000 in
set_option maxHeartbeats 1000000 in
theorem NormalG_no (N : Int) (pe : Option Addr) (ne ce : Nat) (pw : Option Addr) (nw cw : Nat) (E : List (Int × Int)) (hs : List Hd) (W : List (List ByteArray)) (w : World) (hE : Rd w 2 pe ne (encE E)) (hW : RdW w pw nw hs W) (hz : SzW W) (hc : checkB N E W = false) :
    Calls Tryz.prog 139 #[.agg #[.int .i64 N, .slice pe ne ce, .slice pw nw cw]] w fun e w' => e = .returned (.tuple #[.agg #[.int .i64 0, .slice none 0 0, .slice none 0 0], .int .i64 20]) ∧ Ext w w' := by
  have HE := Lib.hid hE; clear hE
  have HW := Lib.hid hW; clear hW
  have HZ := Lib.hid hz; clear hz
  go_enter Tryz.func139, Tryz.ntmps139
  go_wp2_with (go_at_call 134; refine (CheckG _ _ _ _ _ _ _ E hs W _ (HE.out.ext (alloc2 w _ _).2.2) (HW.out.ext (alloc2 w _ _).2.2) HZ.out).mono ?_; rintro e w1 ⟨rfl, hb1⟩; have BR : Blk w1 (w.heap.size + 1) _ _ := (hb1.block _ (by simp)).trans (alloc2 w _ _).2.1; have r0 := BR.cell 0; have r1 := BR.cell 1; have r2 := BR.cell 2; have k0 := BR.frozen 0; have k1 := BR.frozen 1; have k2 := BR.frozen 2; have HB := Lib.hid (Ext.trans (alloc2 w _ _).2.2 hb1); have BR0 := Lib.hid BR; clear BR hb1)
  have B0 := BR0.out
  have B1 := B0.set_ 0 (.int .i64 0)
  have B2 := B1.set_ 1 (.slice none 0 0)
  have c0 := (B2.set_ 2 (.slice none 0 0)).cell 0
  have c1' := (B2.set_ 2 (.slice none 0 0)).cell 1
  have c2 := (B2.set_ 2 (.slice none 0 0)).cell 2
  refine bodyPost_ret (v := .tuple #[.agg #[.int .i64 0, .slice none 0 0, .slice none 0 0], .int .i64 20]) (by simp [results, Tryz.results139, go_sem, c0, c1', c2, Tryz.sizeOf112, Tryz.isAgg112]) rfl ⟨rfl, ?_⟩
  exact ((HB.out.setCell (by simp) _).setCell (by simp) _).setCell (by simp) _
/-- what the operations of the first composite tell -/
def R3 (b : Nat) (wz N : Nat) (pe : Option Addr) (ne ce : Nat) (D : List (Int × Int)) (i : Nat) (v : Value) (W : World) : Prop :=
  match i with
  | 0 => v = .pointer (some ⟨b, 0, none⟩)
  | 1 => v = .int .i64 N
  | 2 => v = .pointer (some ⟨b, 1, none⟩)
  | 3 => v = .slice pe ne ce
  | 4 => v = .agg #[.func (.func 154) #[] #[]]
  | 5 => ∃ q c, v = .slice q D.length c ∧ W.ownsRow wz 108 2 (.slice q D.length c) D.length (encE D)
  | 6 => ∃ q c, v = .agg #[.int .i64 N, .slice q D.length c, .slice none 0 0] ∧ W.ownsRow wz 108 2 (.slice q D.length c) D.length (encE D)
  | 7 => ∃ g, v = .pointer (some ⟨g, 0, none⟩) ∧ wz ≤ g ∧ Blk W g 112 #[.int .i64 0, .slice none 0 0, .slice none 0 0]
  | _ => True
theorem R3_mono {b wz N : Nat} {pe : Option Addr} {ne ce : Nat} {D : List (Int × Int)} : ∀ i v W W', Ext W W' → R3 b wz N pe ne ce D i v W → R3 b wz N pe ne ce D i v W' := by
  intro i v W W' he h
  match i with
  | 0 => exact h
  | 1 => exact h
  | 2 => exact h
  | 3 => exact h
  | 4 => exact h
  | 5 => obtain ⟨q, c, h1, h2⟩ := h; exact ⟨q, c, h1, he.own h2⟩
  | 6 => obtain ⟨q, c, h1, h2⟩ := h; exact ⟨q, c, h1, he.own h2⟩
  | 7 => obtain ⟨g, h1, h2, h3⟩ := h; exact ⟨g, h1, h2, h3.ext he⟩
  | _ + 8 => trivial
/-- what the operations of the loop's append tell -/
def R7 (wz g : Nat) (qh : Option Addr) (j ch : Nat) (pl : Option Addr) (nl cl : Nat) (D : List ByteArray) (i : Nat) (v : Value) (W : World) : Prop :=
  match i with
  | 0 => v = .pointer (some ⟨g, 2, none⟩)
  | 1 => v = .slice qh j ch
  | 2 => v = .slice pl nl cl
  | 3 => v = .agg #[.func (.func 151) #[] #[]]
  | 4 => ∃ q c, v = .slice q D.length c ∧ W.ownsRow wz 9 1 (.slice q D.length c) D.length (encS D)
  | 5 => ∃ q c a, v = .slice a 1 1 ∧ Rd W 1 a 1 [.slice q D.length c] ∧ W.ownsRow wz 9 1 (.slice q D.length c) D.length (encS D)
  | _ => True
theorem R7_mono {wz g : Nat} {qh : Option Addr} {j ch : Nat} {pl : Option Addr} {nl cl : Nat} {D : List ByteArray} : ∀ i v W W', Ext W W' → R7 wz g qh j ch pl nl cl D i v W → R7 wz g qh j ch pl nl cl D i v W' := by
  intro i v W W' he h
  match i with
  | 0 => exact h
  | 1 => exact h
  | 2 => exact h
  | 3 => exact h
  | 4 => obtain ⟨q, c, h1, h2⟩ := h; exact ⟨q, c, h1, he.own h2⟩
  | 5 => obtain ⟨q, c, a, h1, h2, h3⟩ := h; exact ⟨q, c, a, h1, h2.ext he, he.own h3⟩
  | _ + 6 => trivial
set_option maxRecDepth 100000 in
set_option maxHeartbeats 2000000 in
theorem NormalG_yes (N : Int) (pe : Option Addr) (ne ce : Nat) (pw : Option Addr) (nw cw : Nat) (E : List (Int × Int)) (hs : List Hd) (W : List (List ByteArray)) (w : World) (hE : Rd w 2 pe ne (encE E)) (hW : RdW w pw nw hs W) (hz : SzW W) (hc : checkB N E W = true) :
    Calls Tryz.prog 139 #[.agg #[.int .i64 N, .slice pe ne ce, .slice pw nw cw]] w fun e w' => ∃ v, e = .returned (.tuple #[v, .int .i64 0]) ∧ GraphO w' w.heap.size v N (dedup (sortBy lessE E)) (W.map fun l => dedup (sortBy sLess l)) ∧ Ext w w' := by
  obtain ⟨j0, hj0, hy0, hy1, hy2⟩ := info_parts inf35
  obtain ⟨_, hN, hE2, hWN, _, hW8⟩ := checkB_parts hc
  have hW9 := rowOk_len hW8
  have p1 := hE.ptr
  have p2 := hW.row.ptr
  have l1 := hE.nE
  have l2 := hW.nW
  have n1 : ne ≤ 2000 := by omega
  have n2 : nw ≤ 200 := by omega
  obtain rfl : N = (nw : Int) := by omega
  have HE := Lib.hid hE; clear hE
  have HW := Lib.hid hW; clear hW
  have HZ := Lib.hid hz; clear hz
  have L1 := Lib.hid l1; clear l1
  have L2 := Lib.hid l2; clear l2
  have H9 := Lib.hid hW9; clear hW9
  clear hW8 hE2 hN hWN
  go_enter Tryz.func139, Tryz.ntmps139
  go_wp2_with (go_at_call 134; refine (CheckG _ _ _ _ _ _ _ E hs W _ (HE.out.ext (alloc2 w _ _).2.2) (HW.out.ext (alloc2 w _ _).2.2) HZ.out).mono ?_; rintro e w1 ⟨rfl, hb1⟩; have BG : Blk w1 w.heap.size _ _ := (hb1.block _ (by simp; omega)).trans (alloc2 w _ _).1; have BR : Blk w1 (w.heap.size + 1) _ _ := (hb1.block _ (by simp)).trans (alloc2 w _ _).2.1; have g0 := BG.cell 0; have g1 := BG.cell 1; have zb := BR.lt; have HB := Lib.hid (Ext.trans (alloc2 w _ _).2.2 hb1); have BR0 := Lib.hid BR; have BG0 := Lib.hid BG; clear BR BG hb1)
  refine wp_region_head 8 [11, 12, 13, 14, 15, 16, 17, 4] (R3 w.heap.size w1.heap.size nw pe ne ce (dedup (sortBy lessE E))) (by kernel_rfl) (by kernel_rfl) (by kernel_rfl) R3_mono ?_ ?_
  · refine allLt_succ (allLt_succ (allLt_succ (allLt_succ (allLt_succ (allLt_succ (allLt_succ (allLt_succ allLt_zero ?_) ?_) ?_) ?_) ?_) ?_) ?_) ?_ <;> intro ev vs W2 hE2 hin hout hcs hf hg hd o ho <;> obtain rfl := Option.some.inj ho
    · have e1 := hout 1 rfl
      simp [go_sem] at e1
      simp [execOp, go_sem, e1]
      exact ⟨rfl, Below.refl _ _⟩
    · have e1 : _ = Value.pointer _ := (hin 11 0 rfl).trans (hd 0 (by decide))
      have c := (BG0.out.ext hE2).cell 0
      simp [execOp, go_sem, e1, c]
      exact ⟨rfl, Below.refl _ _⟩
    · have e1 := hout 1 rfl
      simp [go_sem] at e1
      simp [execOp, go_sem, e1]
      exact ⟨rfl, Below.refl _ _⟩
    · have e1 : _ = Value.pointer _ := (hin 13 2 rfl).trans (hd 2 (by decide))
      have c := (BG0.out.ext hE2).cell 1
      simp [execOp, go_sem, e1, c]
      exact ⟨rfl, Below.refl _ _⟩
    · have e1 := hf 136
      simp [go_sem] at e1
      simp [execOp, go_sem, e1]
      exact (EdgesG W2).mono fun e w' ⟨h1, h2⟩ => ⟨_, h1, rfl, h2⟩
    · have e1 := hf 158
      have e2 : _ = Value.slice _ _ _ := (hin 14 3 rfl).trans (hd 3 (by decide))
      have e3 : _ = Value.agg _ := (hin 15 4 rfl).trans (hd 4 (by decide))
      simp [go_sem] at e1
      simp [execOp, go_sem, e1, e2, e3]
      exact (OnceE _ _ _ E W2 (HE.out.ext (Ext.trans HB.out hE2)) (by omega)).mono fun e w' ⟨q, c, h1, h2, h3⟩ => ⟨_, h1, ⟨q, c, rfl, own_base h2 hE2.size⟩, h3⟩
    · have e1 : _ = Value.int _ _ := (hin 12 1 rfl).trans (hd 1 (by decide))
      obtain ⟨q, c, e2, e3⟩ := (hd 5 (by decide) : R3 _ _ _ _ _ _ _ 5 (vs 5) W2)
      have e4 := (hin 16 5 rfl).trans e2
      simp [execOp, go_sem, e1, e4]
      exact ⟨⟨q, c, rfl, e3⟩, Below.refl _ _⟩
    · simp [execOp, go_sem]
      exact ⟨⟨_, rfl, hE2.size, Blk.new _ _ _⟩, (Below.refl _ _).alloc (Nat.le_refl _) _⟩
  · intro vs W2 hE2 hR
    have r0 : vs 0 = _ := hR 0 (by decide)
    have r1 : vs 1 = _ := hR 1 (by decide)
    have r2 : vs 2 = _ := hR 2 (by decide)
    have r3 : vs 3 = _ := hR 3 (by decide)
    have r4 : vs 4 = _ := hR 4 (by decide)
    obtain ⟨q5, c5, r5, _⟩ := hR 5 (by decide)
    obtain ⟨q, cq, r6, own⟩ := hR 6 (by decide)
    obtain ⟨g, r7, hg, BO⟩ := hR 7 (by decide)
    simp only [putHd, List.mapIdx_toArray, List.mapIdx_cons, List.mapIdx_nil, Nat.zero_add, Nat.reduceAdd]
    simp [List.idxOf?_cons, List.idxOf?_nil, r0, r1, r2, r3, r4, r5, r6, r7]
    have s2 := hE2.size
    have hbw : w.heap.size + 1 < W2.heap.size := by omega
    have B1 := BO.set_ 0 (.int .i64 nw)
    have B2 := B1.set_ 1 (.slice q (dedup (sortBy lessE E)).length cq)
    have B3 := B2.set_ 2 (.slice none 0 0)
    have BOx := Lib.hid B3
    have OEx := Lib.hid (own_set (own_set (own_set own BO (by decide) 0 (.int .i64 nw)) B1 (by decide) 1 (.slice q (dedup (sortBy lessE E)).length cq)) B2 (by decide) 2 (.slice none 0 0))
    have b0 := BO.cell 0
    have b1 := BO.cell 1
    have b2 := BO.cell 2
    have f0 := BO.frozen 0
    have f1 := BO.frozen 1
    have f2 := BO.frozen 2
    have HGL := Lib.hid BO.lt
    have hgw : w.heap.size + 1 < g := by omega
    have BGx := Lib.hid ((((BG0.out.ext hE2).far (p := ⟨g, 0, none⟩) (by simp; omega) (.int .i64 nw)).far (p := ⟨g, 1, none⟩) (by simp; omega) (.slice q (dedup (sortBy lessE E)).length cq)).far (p := ⟨g, 2, none⟩) (by simp; omega) (.slice none 0 0))
    have BRx := Lib.hid ((((BR0.out.ext hE2).far (p := ⟨g, 0, none⟩) (by simp; omega) (.int .i64 nw)).far (p := ⟨g, 1, none⟩) (by simp; omega) (.slice q (dedup (sortBy lessE E)).length cq)).far (p := ⟨g, 2, none⟩) (by simp; omega) (.slice none 0 0))
    have HX := Lib.hid ((((Ext.trans HB.out hE2).setCell (p := ⟨g, 0, none⟩) (by simp; omega) (.int .i64 nw)).setCell (p := ⟨g, 1, none⟩) (by simp; omega) (.slice q (dedup (sortBy lessE E)).length cq)).setCell (p := ⟨g, 2, none⟩) (by simp; omega) (.slice none 0 0))
    have gx := BGx.out.cell 2
    clear g0 g1 BG0 BR0 HB B1 B2 B3 own BO
    go_wp2
    go_loopw [6, 21] (fun _ i wr => ∃ (j : Nat) (qh : Option Addr) (ch : Nat) (hs' : List Hd), j ≤ nw ∧ i = .int .i64 j ∧ OwnW wr W2.heap.size qh j ch hs' ((W.take j).map fun l => dedup (sortBy sLess l)) ∧ wr.ownsRow w1.heap.size 108 2 (.slice q (dedup (sortBy lessE E)).length cq) (dedup (sortBy lessE E)).length (encE (dedup (sortBy lessE E))) ∧
        Blk wr w.heap.size 112 #[.int .i64 nw, .slice pe ne ce, .slice pw nw cw] ∧ Blk wr (w.heap.size + 1) 112 #[.int .i64 0, .slice none 0 0, .slice none 0 0] ∧ Blk wr g 112 #[.int .i64 nw, .slice q (dedup (sortBy lessE E)).length cq, .slice qh j ch] ∧ Ext w wr ∧ W2.heap.size ≤ wr.heap.size) (fun _ i _ => nw - (intOf i).toNat)
    case atStart => exact ⟨0, none, 0, [], Nat.zero_le _, rfl, OwnW.nil _ _, OEx.out, BGx.out, BRx.out, BOx.out, HX.out, by simp [World.setCell]⟩
    case round =>
      clear gx OEx BGx BRx BOx HX
      obtain ⟨j, qh, ch, hs', hj, rfl, OW, OE, BG, BR, BO, HB, HZZ⟩ := hrel
      have g2 := BG.cell 2
      have o0 := BO.cell 0
      have o1 := BO.cell 1
      have o2 := BO.cell 2
      have r0 := BR.cell 0
      have r1 := BR.cell 1
      have r2 := BR.cell 2
      have q0 := BR.frozen 0
      have q1 := BR.frozen 1
      have q2 := BR.frozen 2
      have OW0 := Lib.hid OW; clear OW
      have OE0 := Lib.hid OE; clear OE
      have BG0 := Lib.hid BG; clear BG
      have BR0 := Lib.hid BR; clear BR
      have BO0 := Lib.hid BO; clear BO
      have HB0 := Lib.hid HB; clear HB
      by_cases hjt : j < nw
      · have gh := HB0.out.cell (HW.out.row.cH hjt)
        have QS := Lib.hid ((HW.out.each j hjt).ext HB0.out)
        have hlen : (nth hs j).n ≤ 8 := by rw [QS.out.nS]; exact H9.out _ (by rw [nth_eq (by rw [← L2.out]; exact hjt)]; exact List.getElem_mem _)
        have HT2 := Lib.hid (map_take_succ (fun l => dedup (sortBy sLess l)) W j (by rw [← L2.out]; exact hjt))
        have m1 : (nth hs j).n ≤ 1000000 := by omega
        have m3 : (j + 1) * 24 ≤ 140737488355328 := by omega
        have m4 : j + 1 ≤ 140737488355328 := by omega
        have M3 := Lib.hid m3; clear m3
        have M4 := Lib.hid m4; clear m4
        go_wp2
        refine wp_region_head 6 [25, 26, 27, 28, 29, 30] (R7 wr.heap.size g qh j ch (nth hs j).p (nth hs j).n (nth hs j).c (dedup (sortBy sLess (nth W j)))) (by kernel_rfl) (by kernel_rfl) (by kernel_rfl) R7_mono ?_ ?_
        · refine allLt_succ (allLt_succ (allLt_succ (allLt_succ (allLt_succ (allLt_succ allLt_zero ?_) ?_) ?_) ?_) ?_) ?_ <;> intro ev vs W3 hE3 hin hout hcs hf hg3 hd o ho <;> obtain rfl := Option.some.inj ho
          · have e1 := hout 4 rfl
            simp [go_sem] at e1
            simp [execOp, go_sem, e1]
            exact ⟨rfl, Below.refl _ _⟩
          · have e1 : _ = Value.pointer _ := (hin 25 0 rfl).trans (hd 0 (by decide))
            have c := (BO0.out.ext hE3).cell 2
            simp [execOp, go_sem, e1, c]
            exact ⟨rfl, Below.refl _ _⟩
          · have e1 := hout 6 rfl
            simp [go_sem] at e1
            simp [execOp, go_sem, e1]
            exact ⟨rfl, Below.refl _ _⟩
          · have e1 := hf 133
            simp [go_sem] at e1
            simp [execOp, go_sem, e1]
            exact (WordsG W3).mono fun e w' ⟨h1, h2⟩ => ⟨_, h1, rfl, h2⟩
          · have e1 := hf 159
            have e2 : _ = Value.slice _ _ _ := (hin 27 2 rfl).trans (hd 2 (by decide))
            have e3 : _ = Value.agg _ := (hin 28 3 rfl).trans (hd 3 (by decide))
            simp [go_sem] at e1
            simp [execOp, go_sem, e1, e2, e3]
            exact (OnceS _ _ _ (nth W j) W3 (QS.out.ext hE3) (by omega)).mono fun e w' ⟨q, c, h1, h2, h3⟩ => ⟨_, h1, ⟨q, c, rfl, own_base h2 hE3.size⟩, h3⟩
          · obtain ⟨q, c, e2, e3⟩ := (hd 4 (by decide) : R7 _ _ _ _ _ _ _ _ _ 4 (vs 4) W3)
            have e4 := (hin 29 4 rfl).trans e2
            simp [execOp, go_sem, e4]
            exact ⟨⟨q, c, _, rfl, Rd.oneH _ _ _ _ _, e3.alloc _⟩, (Below.refl _ _).alloc (Nat.le_refl _) _⟩
        · intro vs W3 hE3 hR3
          have r0 : vs 0 = _ := hR3 0 (by decide)
          have r1 : vs 1 = _ := hR3 1 (by decide)
          have r2 : vs 2 = _ := hR3 2 (by decide)
          have r3 : vs 3 = _ := hR3 3 (by decide)
          obtain ⟨q4, c4, r4, _⟩ := hR3 4 (by decide)
          obtain ⟨p', d', a', r5, RA, OR⟩ := hR3 5 (by decide)
          have OR1 := Lib.hid (own_base OR HZZ)
          have RA1 := Lib.hid RA
          have HX2 := Lib.hid hE3
          have OW2 := Lib.hid (OW0.out.ext hE3)
          have BO2 := Lib.hid (BO0.out.ext hE3)
          have BG2 := Lib.hid (BG0.out.ext hE3)
          have BR2 := Lib.hid (BR0.out.ext hE3)
          have OE2 := Lib.hid (hE3.own OE0.out)
          have HB2 := Lib.hid (Ext.trans HB0.out hE3)
          have hz3 : W2.heap.size ≤ W3.heap.size := Nat.le_trans HZZ hE3.size
          simp only [putHd, List.mapIdx_toArray, List.mapIdx_cons, List.mapIdx_nil, Nat.zero_add, Nat.reduceAdd]
          simp [List.idxOf?_cons, List.idxOf?_nil, r0, r1, r2, r3, r4, r5]
          clear r0 r1 r2 r3 r4 r5 OR RA hE3 hR3
          go_wp2_with (at_builtin; go_must ((refine wpList_append_rd rfl _ _ _ rfl W2.heap.size 22 j0 _ 1 24 Tryz.underlying110 hj0 hy0 hy1 hy2 rfl (by omega) qh j ch _ rfl OW2.out.row a' 1 1 _ rfl RA1.out (one_slice _ _ _) M3.out M4.out hz3 ?_; intro q3 c3 w3 own3 hg3 hat3 hl3; have BO3 : Blk w3 g _ _ := (hl3.block g HGL.out).trans BO2.out; have BG3 : Blk w3 w.heap.size _ _ := (hl3.block _ (by omega)).trans BG2.out; have BR3 : Blk w3 (w.heap.size + 1) _ _ := (hl3.block _ (by omega)).trans BR2.out; have HB3 := Lib.hid (Below.trans HB2.out (hl3.mono (by omega))); have OE3 := Lib.hid (own_grown OE2.out hg3 (own_own_ne OW2.out.row OE2.out (by decide))); have OW3 := Lib.hid (OwnW.push OW2.out OR1.out own3 hg3); have x2 := BO3.cell 2; have xf := BO3.frozen 2; have BO4 := Lib.hid BO3; have BG4 := Lib.hid BG3; have BR4 := Lib.hid BR3; have HS3 := hl3.size; clear own3 hg3 hat3 hl3 BO3 BG3 BR3)))
          go_roundw
          case rel => exact ⟨j + 1, q3, c3, _, by omega, by go_num, by rw [HT2.out]; exact OW3.out.set_ BO4.out (by decide) (by decide) _ _, own_set OE3.out BO4.out (by decide) _ _, BG4.out.far (by simp; omega) _, BR4.out.far (by simp; omega) _, BO4.out.set_ 2 _, HB3.out.setCell (by simp; omega) _, by simp [World.setCell]; omega⟩
          case measure => simp [intOf]; omega
      · have hjn : j = nw := by omega
        subst hjn
        have HT2 : Hid ((W.take j).map (fun l => dedup (sortBy sLess l)) = W.map (fun l => dedup (sortBy sLess l))) := by unfold Hid; rw [List.take_of_length_le (by rw [← L2.out]; omega)]
        go_wp2
        have B0 := BR0.out
        have B1 := B0.set_ 0 (.int .i64 j)
        have B2 := B1.set_ 1 (.slice q (dedup (sortBy lessE E)).length cq)
        have c0 := (B2.set_ 2 (.slice qh j ch)).cell 0
        have c1' := (B2.set_ 2 (.slice qh j ch)).cell 1
        have c2 := (B2.set_ 2 (.slice qh j ch)).cell 2
        refine bodyPost_ret (v := .tuple #[.agg #[.int .i64 j, .slice q (dedup (sortBy lessE E)).length cq, .slice qh j ch], .int .i64 0]) (by simp [results, Tryz.results139, go_sem, c0, c1', c2, Tryz.sizeOf112, Tryz.isAgg112]) rfl ⟨_, rfl, ?_, ?_⟩
        · have OW := ((OW0.out.set_ B0 (by decide) (by decide) 0 (.int .i64 j)).set_ B1 (by decide) (by decide) 1 (.slice q (dedup (sortBy lessE E)).length cq)).set_ B2 (by decide) (by decide) 2 (.slice qh j ch)
          have OE := own_set (own_set (own_set OE0.out B0 (by decide) 0 (.int .i64 j)) B1 (by decide) 1 (.slice q (dedup (sortBy lessE E)).length cq)) B2 (by decide) 2 (.slice qh j ch)
          rw [HT2.out] at OW
          have hl := OW.len
          exact ⟨q, cq, qh, ch, hs', by rw [← hl], own_base OE (by omega), by rw [← hl]; exact ⟨OW.hn, own_base OW.row (by omega), fun j hj => own_base (OW.each j hj) (by omega)⟩⟩
        · exact ((HB0.out.setCell (by simp) _).setCell (by simp) _).setCell (by simp) _
theorem NormalG0 (N : Int) (pe : Option Addr) (ne ce : Nat) (pw : Option Addr) (nw cw : Nat) (E : List (Int × Int)) (hs : List Hd) (W : List (List ByteArray)) (w : World) (hE : Rd w 2 pe ne (encE E)) (hW : RdW w pw nw hs W) (hz : SzW W) :
    Calls Tryz.prog 139 #[.agg #[.int .i64 N, .slice pe ne ce, .slice pw nw cw]] w fun e w' => ∃ v, e = .returned (.tuple #[v, .int .i64 (normC N E W)]) ∧ GraphO w' w.heap.size v (if checkB N E W then N else 0) (if checkB N E W then dedup (sortBy lessE E) else []) (if checkB N E W then W.map fun l => dedup (sortBy sLess l) else []) ∧ Ext w w' := by
  unfold normC
  by_cases hc : checkB N E W = true
  · simp only [hc, if_true]
    exact NormalG_yes N pe ne ce pw nw cw E hs W w hE hW hz hc
  · have hc' : checkB N E W = false := by simpa using hc
    simp only [hc']
    refine (NormalG_no N pe ne ce pw nw cw E hs W w hE hW hz hc').mono fun e w' ⟨he, hb⟩ => ⟨_, he, ?_, hb⟩
    exact ⟨none, 0, none, 0, [], rfl, World.ownsRow_nil _ _ _ _, OwnW.nil _ _⟩
end Go.Proofs.YtkekibnhmfmhmaaGreat
/- The program's Normal by the plain law; Degrees. -/
namespace Go.Proofs.YtkekibnhmfmhmaaGreat
open Go Go.RowKit Go.Shelf Go.Lib Go.Sort
theorem NormalG (N : Int) (pe : Option Addr) (ne ce : Nat) (pw : Option Addr) (nw cw : Nat) (E : List (Int × Int)) (hs : List Hd) (W : List (List ByteArray)) (w : World) (hE : Rd w 2 pe ne (encE E)) (hW : RdW w pw nw hs W) (hz : SzW W) :
    Calls Tryz.prog 139 #[.agg #[.int .i64 N, .slice pe ne ce, .slice pw nw cw]] w fun e w' => ∃ v, e = .returned (.tuple #[v, .int .i64 (normC N E W)]) ∧ GraphO w' w.heap.size v (normN N E W) (normE N E W) (normW N E W) ∧ Ext w w' := by
  refine (NormalG0 N pe ne ce pw nw cw E hs W w hE hW hz).mono ?_
  rintro e w' ⟨v, h1, h2, h3⟩
  refine ⟨v, h1, ?_, h3⟩
  unfold normN normE normW
  rw [← once_putAll stoE, show (putAll sLess : List ByteArray → _) = fun l => dedup (sortBy sLess l) from funext fun l => (once_putAll stoS l).symm]
  exact h2
theorem own_far {w : World} {base : Nat} {e : TypeId} {size n c : Nat} {q : Option Addr} {xs : List Value} (h : w.ownsRow base e size (.slice q n c) n xs) {b : Nat} (hb : b < base) (i : Nat) (u : Value) : (w.setCell ⟨b, i, none⟩ u).ownsRow base e size (.slice q n c) n xs := by
  refine ⟨h.1, ?_⟩
  rcases h.2 with h2 | ⟨g, cap, cur, h1, hg, hh, r⟩
  · exact .inl h2
  · exact .inr ⟨g, cap, cur, h1, hg, (Below.heap_setCell w ⟨b, i, none⟩ u g (by show g ≠ b; omega)).trans hh, r⟩
theorem GraphO.set {w : World} {base : Nat} {v : Value} {N : Int} {E : List (Int × Int)} {W : List (List ByteArray)} (h : GraphO w base v N E W) {b : Nat} (hb : b < base) (i : Nat) (u : Value) : GraphO (w.setCell ⟨b, i, none⟩ u) base v N E W := by
  obtain ⟨pe, ce, pw, cw, hs, h1, h2, h3⟩ := h
  exact ⟨pe, ce, pw, cw, hs, h1, own_far h2 hb i u, h3.hn, own_far h3.row hb i u, fun j hj => own_far (h3.each j hj) hb i u⟩
theorem GraphO.mono {w : World} {base b : Nat} {v : Value} {N : Int} {E : List (Int × Int)} {W : List (List ByteArray)} (h : GraphO w base v N E W) (hb : b ≤ base) : GraphO w b v N E W := by
  obtain ⟨pe, ce, pw, cw, hs, h1, h2, h3⟩ := h
  exact ⟨pe, ce, pw, cw, hs, h1, own_base h2 hb, h3.hn, own_base h3.row hb, fun j hj => own_base (h3.each j hj) hb⟩
/-- the counts of an edge list's places -/
def outN (E : List (Int × Int)) (v : Int) : Nat := E.countP fun x => x.1 == v
def inN (E : List (Int × Int)) (v : Int) : Nat := E.countP fun x => x.2 == v
def placeB (N : Int) (E : List (Int × Int)) (W : List (List ByteArray)) (v : Int) : Bool := checkB N E W && decide (0 ≤ v ∧ v < N)
def degO (N : Int) (E : List (Int × Int)) (W : List (List ByteArray)) (v : Int) : Int := if placeB N E W v then outN (putAll lessE E) v else 0
def degI (N : Int) (E : List (Int × Int)) (W : List (List ByteArray)) (v : Int) : Int := if placeB N E W v then inN (putAll lessE E) v else 0
theorem outN_step {E : List (Int × Int)} {v : Int} {k : Nat} (hk : k < E.length) : outN (E.take (k + 1)) v = outN (E.take k) v + if (nth E k).1 == v then 1 else 0 := by
  unfold outN; rw [take_succ_nth E k hk, List.countP_append, List.countP_singleton]
theorem inN_step {E : List (Int × Int)} {v : Int} {k : Nat} (hk : k < E.length) : inN (E.take (k + 1)) v = inN (E.take k) v + if (nth E k).2 == v then 1 else 0 := by
  unfold inN; rw [take_succ_nth E k hk, List.countP_append, List.countP_singleton]
theorem outN_le (E : List (Int × Int)) (v : Int) : outN E v ≤ E.length := List.countP_le_length
theorem inN_le (E : List (Int × Int)) (v : Int) : inN E v ≤ E.length := List.countP_le_length
end Go.Proofs.YtkekibnhmfmhmaaGreat
/- The program's Turned. -/
namespace Go.Proofs.YtkekibnhmfmhmaaGreat
open Go Go.RowKit Go.Shelf Go.Lib Go.Sort
/-- the first k turned, the others as they were -/
def turnK (E : List (Int × Int)) (k : Nat) : List (Int × Int) := (E.take k).map swapE ++ E.drop k
theorem turnK_len (E : List (Int × Int)) (k : Nat) : (turnK E k).length = E.length := by simp [turnK]; omega
theorem turnK_nth (E : List (Int × Int)) (k : Nat) (h : k < E.length) : nth (turnK E k) k = nth E k := by
  have hl : k < (turnK E k).length := by rw [turnK_len]; exact h
  unfold nth turnK
  rw [List.getD_eq_getElem?_getD, List.getD_eq_getElem?_getD, List.getElem?_append_right (by simp; omega)]
  simp [Nat.min_eq_left (Nat.le_of_lt h)]
theorem turnK_step (E : List (Int × Int)) (k : Nat) (h : k < E.length) : ((encE (turnK E k)).set (k * 2) (.int .i64 (nth E k).2)).set (k * 2 + 1) (.int .i64 (nth E k).1) = encE (turnK E (k + 1)) := by
  have h1 : encE (turnK E k) = encE ((E.take k).map swapE) ++ ([.int .i64 (nth E k).1, .int .i64 (nth E k).2] ++ encE (E.drop (k + 1))) := by
    unfold turnK
    rw [encE_append, drop_nth E k h]
    rfl
  have h2 : encE (turnK E (k + 1)) = encE ((E.take k).map swapE) ++ ([.int .i64 (nth E k).2, .int .i64 (nth E k).1] ++ encE (E.drop (k + 1))) := by
    unfold turnK
    rw [map_take_succ swapE E k h, encE_append, encE_append, List.append_assoc]
    rfl
  have hl : (encE ((E.take k).map swapE)).length = k * 2 := by rw [encE_len, List.length_map, List.length_take]; omega
  rw [h1, h2, List.set_append_right _ _ (by omega), List.set_append_right _ _ (by omega), hl]
  simp [show k * 2 + 1 - k * 2 = 1 from by omega]
set_option maxRecDepth 100000 in
set_option maxHeartbeats 2000000 in
theorem TurnedG (N : Int) (pe : Option Addr) (ne ce : Nat) (pw : Option Addr) (nw cw : Nat) (E : List (Int × Int)) (hs : List Hd) (W : List (List ByteArray)) (w : World) (hE : Rd w 2 pe ne (encE E)) (hW : RdW w pw nw hs W) (hz : SzW W) (hn : ne ≤ 100000) :
    Calls Tryz.prog 103 #[.agg #[.int .i64 N, .slice pe ne ce, .slice pw nw cw]] w fun e w' => ∃ v, e = .returned (.tuple #[v, .int .i64 (normC N (E.map swapE) W)]) ∧ GraphO w' w.heap.size v (normN N (E.map swapE) W) (normE N (E.map swapE) W) (normW N (E.map swapE) W) ∧ Ext w w' := by
  have l1 := hE.nE
  have HClone := Lib.hid (fun W1 (h : Ext w W1) => CloneE pe ne ce E W1 (hE.ext h) hn)
  have HW := Lib.hid hW; clear hW
  have HZ := Lib.hid hz; clear hz
  have L1 := Lib.hid l1; clear l1
  clear hE
  have S0 := Lib.hid (((Sep.start w).al #[.int .i64 N, .slice pe ne ce, .slice pw nw cw] 112 w.heap.size rfl).al #[.int .i64 0, .slice none 0 0, .slice none 0 0] 112 (w.heap.size + 1) (by simp))
  go_enter Tryz.func103, Tryz.ntmps103
  go_wp2_with (go_at_call 138; go_must (refine (HClone.out _ S0.out.ext).mono ?_; rintro e w1 ⟨q, c, rfl, ho, hb⟩; have S1 := S0.out.fresh hb ho (Nat.le_refl _); have c0 := (S1.blk 2 rfl).cell 0; have c1 := (S1.blk 2 rfl).cell 1; have c2 := (S1.blk 2 rfl).cell 2; have f1 := (S1.blk 2 rfl).frozen 1; have S2 := Lib.hid S1; clear S1 ho hb))
  go_loopw [4, 5, 13] (fun _ _ i wr => ∃ k : Nat, k ≤ ne ∧ i = .int .i64 k ∧ Sep w wr [.own 108 2 q ne c (encE (turnK E k)), .blk (w.heap.size + 1) 112 #[.int .i64 0, .slice none 0 0, .slice none 0 0], .blk w.heap.size 112 #[.int .i64 N, .slice q ne c, .slice pw nw cw]]) (fun _ _ i _ => ne - (intOf i).toNat)
  case atStart => exact ⟨0, Nat.zero_le _, rfl, by have := S2.out.set 2 rfl 1 (.slice q ne c); rwa [show turnK E 0 = E from by simp [turnK]]⟩
  case round =>
    clear S2 c0 c1 c2 f1
    obtain ⟨k, hk, rfl, S⟩ := hrel
    have cz := (S.blk 2 rfl).lt; have c0 := (S.blk 2 rfl).cell 0; have c1 := (S.blk 2 rfl).cell 1; have c2 := (S.blk 2 rfl).cell 2
    by_cases hlt : k < ne
    · have p1 := (S.rd 0 rfl (by omega)).ptr
      have e1 := (S.rd 0 rfl (by omega)).cE hlt
      have e2 := (S.rd 0 rfl (by omega)).cE2 hlt
      rw [turnK_nth E k (by rw [← L1.out]; exact hlt)] at e1 e2
      have k1 := own_frozen (S.own 0 rfl) (by omega) (k * 2)
      have k2 := own_frozen (S.own 0 rfl) (by omega) (k * 2 + 1)
      have z1 := (S.blt 0 rfl (by omega)).2
      have z2 : (adr q (k * 2)).block < wr.heap.size := z1
      have k3 : wr.frozen? ⟨(adr q (k * 2)).block, (adr q (k * 2)).off + 1, none⟩ = false := k2
      have e3 : wr.cell? ⟨(adr q (k * 2)).block, (adr q (k * 2)).off + 1, none⟩ = some (.int .i64 (nth E k).2) := e2
      have ya : _ ≠ _ := adr_other q (show (k * 2) ≠ (k * 2) + 1 by omega)
      have yb : _ ≠ _ := adr_other q (show (k * 2) + 1 ≠ (k * 2) by omega)
      have yc : adr q ((k * 2)) ≠ ⟨(adr q ((k * 2))).block, (adr q ((k * 2))).off + 1, none⟩ := ya
      have d1 : (0:Int) ≤ k := by omega
      have d2 : (k:Int) < ne := by omega
      have hst := Lib.hid (turnK_step E k (by rw [← L1.out]; exact hlt))
      have SH := Lib.hid S; clear S
      go_wp2
      go_roundw
      case rel => exact ⟨k + 1, by omega, by go_num, by rw [← hst.out]; exact (SH.out.junk _).setRow2 0 rfl (k * 2) (by omega) _ _⟩
      case measure => simp [intOf]; omega
    · obtain rfl : k = ne := by omega
      have HT : Hid (turnK E k = E.map swapE) := by unfold Hid turnK; rw [List.take_of_length_le (by rw [← L1.out]; omega), List.drop_of_length_le (by rw [← L1.out]; omega), List.append_nil]
      have RQ := Lib.hid (S.rd 0 rfl (by omega))
      rw [HT.out] at RQ
      have SH := Lib.hid S; clear S
      go_wp2_with (go_at_call 139; go_must (refine (NormalG N q k c pw nw cw (E.map swapE) hs W _ RQ.out (HW.out.ext SH.out.ext) HZ.out).mono ?_; rintro e w2 ⟨v, rfl, hG, hb2⟩; have S2 := SH.out.call hb2; have z2 : w.heap.size + 1 < wr.heap.size := (SH.out.blk 1 rfl).lt; have HG := Lib.hid hG; obtain ⟨pe', ce', pw', cw', hs', rfl, _, _⟩ := hG; have x0 := (S2.blk 1 rfl).cell 0; have x1 := (S2.blk 1 rfl).cell 1; have x2 := (S2.blk 1 rfl).cell 2; have f0 := (S2.blk 1 rfl).frozen 0; have f1 := (S2.blk 1 rfl).frozen 1; have f2 := (S2.blk 1 rfl).frozen 2; have S3 := Lib.hid S2; clear S2))
      have S4 := ((S3.out.set 1 rfl 0 (.int .i64 (normN N (E.map swapE) W))).set 1 rfl 1 (.slice pe' (normE N (E.map swapE) W).length ce')).set 1 rfl 2 (.slice pw' (normW N (E.map swapE) W).length cw')
      have b0 := (S4.blk 1 rfl).cell 0
      have b1 := (S4.blk 1 rfl).cell 1
      have b2 := (S4.blk 1 rfl).cell 2
      refine bodyPost_ret (v := .tuple #[.agg #[.int .i64 (normN N (E.map swapE) W), .slice pe' (normE N (E.map swapE) W).length ce', .slice pw' (normW N (E.map swapE) W).length cw'], .int .i64 (normC N (E.map swapE) W)]) (by simp [results, Tryz.results103, go_sem, b0, b1, b2, Tryz.sizeOf112, Tryz.isAgg112]) rfl ⟨_, rfl, ?_, S4.ext⟩
      have hg1 := HG.out.set z2 0 (.int .i64 (normN N (E.map swapE) W))
      exact ((hg1.set z2 1 (.slice pe' (normE N (E.map swapE) W).length ce')).set z2 2 (.slice pw' (normW N (E.map swapE) W).length cw')).mono (by omega)
end Go.Proofs.YtkekibnhmfmhmaaGreat
/- Plain facts of chapter 2 that many laws use: what is not looked at bounds what is; rows that are read. -/
namespace Go.Proofs.YtkekibnhmfmhmaaGreat
open Go Go.RowKit
theorem szW_of_big {E : List (Int × Int)} {W : List (List ByteArray)} (h : bigB E W = false) : SzW W := by
  unfold bigB at h
  simp only [Bool.or_eq_false_iff, Bool.and_eq_false_iff] at h
  obtain ⟨⟨⟨h1, h2⟩, _⟩, _⟩ := h
  have hw : W.length ≤ 250 := by simpa using h2
  have hb : W.any badRow = false := by
    rcases h1 with h1 | h1
    · simp at h1; omega
    · exact h1
  intro l hl s hs
  have h3 := List.any_eq_false.1 hb l hl
  unfold badRow at h3
  simp only [Bool.or_eq_true, not_or, Bool.not_eq_true] at h3
  have h4 := List.any_eq_false.1 h3.2 s hs
  unfold longB at h4
  simp at h4
  omega
theorem lens_of_big {E : List (Int × Int)} {W : List (List ByteArray)} (h : bigB E W = false) : E.length ≤ 2100 ∧ W.length ≤ 250 ∧ ∀ l ∈ W, l.length ≤ 20 := by
  unfold bigB at h
  simp only [Bool.or_eq_false_iff, Bool.and_eq_false_iff] at h
  obtain ⟨⟨⟨h1, h2⟩, _⟩, h4⟩ := h
  have hw : W.length ≤ 250 := by simpa using h2
  refine ⟨by simpa using h4, hw, fun l hl => ?_⟩
  have hb : W.any badRow = false := by
    rcases h1 with h1 | h1
    · simp at h1; omega
    · exact h1
  have h3 := List.any_eq_false.1 hb l hl
  unfold badRow at h3
  simp at h3
  omega
theorem norm_lens (N : Int) (E : List (Int × Int)) (W : List (List ByteArray)) (h1 : E.length ≤ 2100) (h2 : W.length ≤ 250) (h3 : ∀ l ∈ W, l.length ≤ 20) : (normE N E W).length ≤ 2100 ∧ (normW N E W).length ≤ 250 ∧ ∀ l ∈ normW N E W, l.length ≤ 20 := by
  unfold normE normW
  by_cases hc : checkB N E W = true
  · simp only [hc, if_true]
    refine ⟨Nat.le_trans (putAll_len _ _) h1, by rw [List.length_map]; exact h2, fun l hl => ?_⟩
    obtain ⟨l', hl', rfl⟩ := List.mem_map.1 hl
    exact Nat.le_trans (putAll_len _ _) (h3 l' hl')
  · have : checkB N E W = false := by simpa using hc
    simp only [this, Bool.false_eq_true, if_false]
    exact ⟨by simp, by simp, fun l hl => by cases hl⟩
theorem Blk.rd {W : World} {g : Nat} {t : TypeId} {cs : Array Value} (h : Blk W g t cs) {n size : Nat} {xs : List Value} (hx : cs.toList = xs) (hn : xs.length = n * size) (hs : n ≤ 9223372036854775807) : Rd W size (some ⟨g, 0, none⟩) n xs := by
  subst hx
  refine ⟨hn, .inr ⟨_, _, rfl⟩, hs, fun j hj => ?_⟩
  rw [adr_some, Nat.zero_add, h.cell j]
  rw [List.getD_eq_getElem?_getD, Array.getElem?_toList, Array.getElem?_eq_getElem (by simp at hn; omega)]
  rfl
theorem GraphO.rd {w : World} {base : Nat} {v : Value} {N : Int} {E : List (Int × Int)} {W : List (List ByteArray)} (h : GraphO w base v N E W) (h1 : E.length ≤ 9223372036854775807) (h2 : W.length ≤ 9223372036854775807) (h3 : ∀ l ∈ W, l.length ≤ 9223372036854775807) : GraphR w v N E W := by
  obtain ⟨pe, ce, pw, cw, hs, rfl, h5, h6⟩ := h
  exact ⟨pe, _, ce, pw, _, cw, hs, rfl, Rd.of_own h5 h1, own_cap h5, h6.rd h2 h3, own_cap h6.row⟩
theorem alloc3B (w : World) (c1 c2 c3 : Array Value) (t1 t2 t3 : TypeId) : Blk (((w.alloc (.cells c1 t1)).alloc (.cells c2 t2)).alloc (.cells c3 t3)) w.heap.size t1 c1 ∧ Blk (((w.alloc (.cells c1 t1)).alloc (.cells c2 t2)).alloc (.cells c3 t3)) (w.heap.size + 1) t2 c2 ∧
    Blk (((w.alloc (.cells c1 t1)).alloc (.cells c2 t2)).alloc (.cells c3 t3)) (w.heap.size + 1 + 1) t3 c3 ∧ Ext w (((w.alloc (.cells c1 t1)).alloc (.cells c2 t2)).alloc (.cells c3 t3)) := alloc3 _ _ _ _
theorem alloc2B (w : World) (c1 c2 : Array Value) (t1 t2 : TypeId) : Blk ((w.alloc (.cells c1 t1)).alloc (.cells c2 t2)) w.heap.size t1 c1 ∧ Blk ((w.alloc (.cells c1 t1)).alloc (.cells c2 t2)) (w.heap.size + 1) t2 c2 ∧ Ext w ((w.alloc (.cells c1 t1)).alloc (.cells c2 t2)) := alloc2 _ _ _
end Go.Proofs.YtkekibnhmfmhmaaGreat
/- The program's rise and Is. -/
namespace Go.Proofs.YtkekibnhmfmhmaaGreat
open Go Go.RowKit Go.Shelf Go.Lib Go.Sort
theorem Ext.growN {w w' : World} (h : Ext w w') (os : Array Obj) : Ext w (grow w' os) :=
  ⟨h.os, h.tape, h.output, by rw [size_grow]; exact Nat.le_trans h.size (Nat.le_add_right _ _), fun k hk => (heap_grow_old w' os (Nat.lt_of_lt_of_le hk h.size)).trans (h.block k hk)⟩
theorem EdgesExt (x y : Int × Int) (W : World) : Calls Tryz.prog 154 #[.agg #[.int .i64 x.1, .int .i64 x.2], .agg #[.int .i64 y.1, .int .i64 y.2]] W fun e w' => e = .returned (.int .i64 (cmpE x y)) ∧ Ext W w' :=
  (EdgesLit x y W).mono fun e w' ⟨h, q, os, hw⟩ => ⟨h, by subst hw; exact Ext.growN (Ext.drewN (Below.refl _ _) q) os⟩
theorem cmpE_neg (x y : Int × Int) : cmpE x y < 0 ↔ lessE x y = true := by
  have := ltOf_cmpE x y
  unfold ltOf at this
  rw [← this]; simp
theorem cmpS_neg (x y : ByteArray) : cmpS x y < 0 ↔ sLess x y = true := by
  have := ltOf_cmpS x y
  unfold ltOf at this
  rw [← this]; simp
set_option maxRecDepth 100000 in
set_option maxHeartbeats 1000000 in
theorem RiseE (p : Option Addr) (n c : Nat) (l : List (Int × Int)) (w : World) (hl : Rd w 2 p n (encE l)) :
    Calls Tryz.prog 135 #[.slice p n c, .agg #[.func (.func 154) #[] #[]]] w fun e w' => e = .returned (.bool (riseB lessE l)) ∧ Ext w w' := by
  have p1 := hl.ptr
  have n1 := hl.small
  have l1 := hl.nE
  have HL := Lib.hid hl; clear hl
  have L1 := Lib.hid l1; clear l1
  go_enter Tryz.func135, Tryz.ntmps135
  go_wp2
  go_loopw [5] (fun i wr => ∃ k : Nat, 1 ≤ k ∧ (k ≤ n ∨ k = 1) ∧ i = .int .i64 k ∧ (List.range (k - 1)).all (riseAt lessE l) = true ∧ Ext w wr ∧ wr.cell? ⟨w.heap.size, 0, none⟩ = some (.func (.func 154) #[] #[])) (fun i _ => n + 1 - (intOf i).toNat)
  case atStart => exact ⟨1, Nat.le_refl _, .inr rfl, rfl, rfl, (Below.refl _ _).alloc (Nat.le_refl _) _, cellnew0 _ _ _ _⟩
  case round =>
    obtain ⟨k, hk1, hk, rfl, ha, hb, b0⟩ := hrel
    have HA := Lib.hid ha; clear ha
    have HB := Lib.hid hb; clear hb
    by_cases hlt : k < n
    · have g1 := HB.out.cell (HL.out.cE hlt)
      have g2 := HB.out.cell (HL.out.cE2 hlt)
      have g3 := HB.out.cell (HL.out.cE (k := k - 1) (by omega))
      have g4 := HB.out.cell (HL.out.cE2 (k := k - 1) (by omega))
      have e1 : ∀ x : ExtOf wr, x.val.cell? (adr p (k * 2)) = _ := fun x => x.ext.cell g1
      have e2 : ∀ x : ExtOf wr, x.val.cell? (adr p (k * 2 + 1)) = _ := fun x => x.ext.cell g2
      have e3 : ∀ x : ExtOf wr, x.val.cell? (adr p ((k - 1) * 2)) = _ := fun x => x.ext.cell g3
      have e4 : ∀ x : ExtOf wr, x.val.cell? (adr p ((k - 1) * 2 + 1)) = _ := fun x => x.ext.cell g4
      have e5 : ∀ x : ExtOf wr, x.val.cell? ⟨w.heap.size, 0, none⟩ = _ := fun x => x.ext.cell b0
      have d1 : (0:Int) ≤ k := by omega
      have d2 : (k:Int) < n := by omega
      have d3 : (0:Int) ≤ (k:Int) - 1 := by omega
      have d4 : (1:Int) ≤ (k:Int) := by omega
      have d5 : (k:Int) - 1 < n := by omega
      have d6 : ((k:Int) - 1).toNat = k - 1 := by omega
      have hkk : k - 1 + 1 = k := by omega
      have HKK := Lib.hid hkk; clear hkk
      have HC := fun W' => EdgesExt (nth l (k - 1)) (nth l k) W'
      have hcc := cmpE_neg (nth l (k - 1)) (nth l k)
      generalize cmpE (nth l (k - 1)) (nth l k) = cc at HC hcc
      have HC1 := Lib.hid HC; clear HC
      by_cases hless : cc < 0
      · have hle : decide (0 ≤ cc) = false := by simp; omega
        have hls := Lib.hid (hcc.1 hless)
        clear hcc
        go_wp2
        refine wp_region_ext (by kernel_rfl) (by kernel_rfl) ?_
        repeat (go_big_quiet_step ((go_at_call 154; exact Calls.ext_of (HC1.out _))))
        refine wpQuiet_nil ?_
        rintro w1 ⟨⟨_, hb1⟩, rfl⟩
        go_wp2
        go_roundw
        case rel => exact ⟨k + 1, by omega, .inl (by omega), by go_num, by rw [show k + 1 - 1 = k - 1 + 1 from by omega]; exact range_all_succ _ _ HA.out (by unfold riseAt; rw [HKK.out]; exact hls.out), Ext.trans HB.out hb1, hb1.cell b0⟩
        case measure => simp [intOf]; omega
      · have hle : decide (0 ≤ cc) = true := by simp; omega
        have hls : lessE (nth l (k - 1)) (nth l k) = false := by simpa using (fun h => hless (hcc.2 h))
        have HF := Lib.hid (riseB_no (lt := lessE) (l := l) (k := k - 1) (by rw [HKK.out, ← L1.out]; exact hlt) (by rw [HKK.out]; exact hls))
        clear hcc hls
        go_wp2
        refine wp_region_ext (by kernel_rfl) (by kernel_rfl) ?_
        repeat (go_big_quiet_step ((go_at_call 154; exact Calls.ext_of (HC1.out _))))
        refine wpQuiet_nil ?_
        rintro w1 ⟨⟨_, hb1⟩, rfl⟩
        go_wp2
        go_ret
        exact ⟨ret_bool HF.out.symm, Ext.trans HB.out hb1⟩
    · have HEE := Lib.hid (riseB_end (by rw [← L1.out]; exact hlt) HA.out)
      go_wp2
      go_ret
      exact ⟨ret_bool HEE.out.symm, HB.out⟩
set_option maxRecDepth 100000 in
set_option maxHeartbeats 1000000 in
theorem RiseS (p : Option Addr) (n c : Nat) (l : List ByteArray) (w : World) (hl : Rd w 1 p n (encS l)) :
    Calls Tryz.prog 132 #[.slice p n c, .agg #[.func (.func 151) #[] #[]]] w fun e w' => e = .returned (.bool (riseB sLess l)) ∧ Ext w w' := by
  have p1 := hl.ptr
  have n1 := hl.small
  have l1 := hl.nS
  have HL := Lib.hid hl; clear hl
  have L1 := Lib.hid l1; clear l1
  go_enter Tryz.func132, Tryz.ntmps132
  go_wp2
  go_loopw [5] (fun i wr => ∃ k : Nat, 1 ≤ k ∧ (k ≤ n ∨ k = 1) ∧ i = .int .i64 k ∧ (List.range (k - 1)).all (riseAt sLess l) = true ∧ Ext w wr ∧ wr.cell? ⟨w.heap.size, 0, none⟩ = some (.func (.func 151) #[] #[])) (fun i _ => n + 1 - (intOf i).toNat)
  case atStart => exact ⟨1, Nat.le_refl _, .inr rfl, rfl, rfl, (Below.refl _ _).alloc (Nat.le_refl _) _, cellnew0 _ _ _ _⟩
  case round =>
    obtain ⟨k, hk1, hk, rfl, ha, hb, b0⟩ := hrel
    have HA := Lib.hid ha; clear ha
    have HB := Lib.hid hb; clear hb
    by_cases hlt : k < n
    · have g1 := HB.out.cell (HL.out.cS hlt)
      have g3 := HB.out.cell (HL.out.cS (k := k - 1) (by omega))
      have e1 : ∀ x : ExtOf wr, x.val.cell? (adr p k) = _ := fun x => x.ext.cell g1
      have e3 : ∀ x : ExtOf wr, x.val.cell? (adr p (k - 1)) = _ := fun x => x.ext.cell g3
      have e5 : ∀ x : ExtOf wr, x.val.cell? ⟨w.heap.size, 0, none⟩ = _ := fun x => x.ext.cell b0
      have d1 : (0:Int) ≤ k := by omega
      have d2 : (k:Int) < n := by omega
      have d3 : (0:Int) ≤ (k:Int) - 1 := by omega
      have d4 : (1:Int) ≤ (k:Int) := by omega
      have d5 : (k:Int) - 1 < n := by omega
      have d6 : ((k:Int) - 1).toNat = k - 1 := by omega
      have hkk : k - 1 + 1 = k := by omega
      have HKK := Lib.hid hkk; clear hkk
      have HC : ∀ W', Calls Tryz.prog 151 #[.string (nth l (k - 1)), .string (nth l k)] W' fun e w' => e = .returned (.int .i64 (cmpS (nth l (k - 1)) (nth l k))) ∧ Ext W' w' := fun W' => (CompareS (nth l (k - 1)) (nth l k) W').mono fun e w' ⟨h, hw⟩ => ⟨h, by subst hw; exact Below.refl _ _⟩
      have hcc := cmpS_neg (nth l (k - 1)) (nth l k)
      generalize cmpS (nth l (k - 1)) (nth l k) = cc at HC hcc
      have HC1 := Lib.hid HC; clear HC
      by_cases hless : cc < 0
      · have hle : decide (0 ≤ cc) = false := by simp; omega
        have hls := Lib.hid (hcc.1 hless)
        clear hcc
        go_wp2
        refine wp_region_ext (by kernel_rfl) (by kernel_rfl) ?_
        repeat (go_big_quiet_step ((go_at_call 151; exact Calls.ext_of (HC1.out _))))
        refine wpQuiet_nil ?_
        rintro w1 ⟨⟨_, hb1⟩, rfl⟩
        go_wp2
        go_roundw
        case rel => exact ⟨k + 1, by omega, .inl (by omega), by go_num, by rw [show k + 1 - 1 = k - 1 + 1 from by omega]; exact range_all_succ _ _ HA.out (by unfold riseAt; rw [HKK.out]; exact hls.out), Ext.trans HB.out hb1, hb1.cell b0⟩
        case measure => simp [intOf]; omega
      · have hle : decide (0 ≤ cc) = true := by simp; omega
        have hls : sLess (nth l (k - 1)) (nth l k) = false := by simpa using (fun h => hless (hcc.2 h))
        have HF := Lib.hid (riseB_no (lt := sLess) (l := l) (k := k - 1) (by rw [HKK.out, ← L1.out]; exact hlt) (by rw [HKK.out]; exact hls))
        clear hcc hls
        go_wp2
        refine wp_region_ext (by kernel_rfl) (by kernel_rfl) ?_
        repeat (go_big_quiet_step ((go_at_call 151; exact Calls.ext_of (HC1.out _))))
        refine wpQuiet_nil ?_
        rintro w1 ⟨⟨_, hb1⟩, rfl⟩
        go_wp2
        go_ret
        exact ⟨ret_bool HF.out.symm, Ext.trans HB.out hb1⟩
    · have HEE := Lib.hid (riseB_end (by rw [← L1.out]; exact hlt) HA.out)
      go_wp2
      go_ret
      exact ⟨ret_bool HEE.out.symm, HB.out⟩
theorem IsLit (p : Option Addr) (n c : Nat) (l : List ByteArray) (w : World) (hl : Rd w 1 p n (encS l)) :
    Calls Tryz.prog 131 #[.slice p n c] w fun e w' => e = .returned (.bool (!riseB sLess l)) ∧ Ext w w' := by
  have HL := Lib.hid hl; clear hl
  go_enter Tryz.func131, Tryz.ntmps131
  go_wp2_with (first
    | (go_at_call 133; go_must ((refine (WordsG _).mono ?_; rintro e w1 ⟨rfl, hb1⟩; have B1 := Lib.hid hb1; clear hb1)))
    | (go_at_call 132; have _t := B1; go_must ((refine (RiseS _ _ _ _ _ (HL.out.ext B1.out)).mono ?_; rintro e w2 ⟨rfl, hb2⟩; have B2 := Lib.hid (Ext.trans B1.out hb2); clear hb2))))
  go_ret
  exact ⟨rfl, B2.out⟩
set_option maxHeartbeats 400000 in
/-- the first row that does not rise, or -1 -/
theorem IndexRise (p : Option Addr) (n c : Nat) (hs : List Hd) (W : List (List ByteArray)) (w : World) (hl : RdW w p n hs W) :
    Calls Tryz.prog 157 #[.slice p n c, .func (.func 131) #[] #[]] w fun e w' => ∃ i : Int, e = .returned (.int .i64 i) ∧ decide (0 ≤ i) = W.any (fun l => !riseB sLess l) ∧ Ext w w' := by
  have p1 := hl.row.ptr
  have n1 := hl.row.small
  have l1 := hl.nW
  have HL := Lib.hid hl; clear hl
  have L1 := Lib.hid l1; clear l1
  go_enter Tryz.func157, Tryz.ntmps157
  go_wp2
  go_loopw [5, 8] (fun _ i wr => ∃ k : Nat, k ≤ n ∧ i = .int .i64 k ∧ (W.take k).any (fun l => !riseB sLess l) = false ∧ Ext w wr) (fun _ i _ => n - (intOf i).toNat)
  case atStart => exact ⟨0, Nat.zero_le _, rfl, rfl, Below.refl _ _⟩
  case round =>
    obtain ⟨k, hk, rfl, ha, hb⟩ := hrel
    have HA := Lib.hid ha; clear ha
    have HB := Lib.hid hb; clear hb
    by_cases hlt : k < n
    · have g1 := HB.out.cell (HL.out.row.cH hlt)
      have Q1 := Lib.hid ((HL.out.each k hlt).ext HB.out)
      by_cases hw : (!riseB sLess (nth W k)) = true
      · have HF := Lib.hid (any_true_at (fun l => !riseB sLess l) W k (by rw [← L1.out]; exact hlt) hw)
        go_wp2_with (go_at_call 131; refine (IsLit _ _ _ _ _ Q1.out).mono ?_; rintro e w' ⟨rfl, hb1⟩; have H1 := Lib.hid (Ext.trans HB.out hb1); clear hb1)
        go_ret
        exact ⟨_, rfl, by rw [HF.out]; simp, H1.out⟩
      · have hw' : (!riseB sLess (nth W k)) = false := by simpa using hw
        have HW' := Lib.hid hw'
        clear hw
        go_wp2_with (go_at_call 131; refine (IsLit _ _ _ _ _ Q1.out).mono ?_; rintro e w' ⟨rfl, hb1⟩; have H1 := Lib.hid (Ext.trans HB.out hb1); clear hb1)
        go_roundw
        case rel => exact ⟨k + 1, by omega, by go_num, any_step _ _ _ (by rw [← L1.out]; exact hlt) HA.out HW'.out, H1.out⟩
        case measure => simp [intOf]; omega
    · have HF := Lib.hid (any_end _ _ _ (by rw [← L1.out]; exact hlt) HA.out)
      go_wp2
      go_ret
      exact ⟨_, rfl, by rw [HF.out]; rfl, HB.out⟩
theorem ContainsRise (p : Option Addr) (n c : Nat) (hs : List Hd) (W : List (List ByteArray)) (w : World) (hl : RdW w p n hs W) :
    Calls Tryz.prog 137 #[.slice p n c, .func (.func 131) #[] #[]] w fun e w' => e = .returned (.bool (W.any (fun l => !riseB sLess l))) ∧ Ext w w' := by
  have HC := Lib.hid (IndexRise p n c hs W w hl)
  clear hl
  go_enter Tryz.func137, Tryz.ntmps137
  go_wp2_with (go_at_call 157; refine HC.out.mono ?_; rintro e w' ⟨i, rfl, hi, hb⟩; have HI := Lib.hid hi; have HB := Lib.hid hb; clear hi hb)
  go_ret
  exact ⟨ret_bool HI.out, HB.out⟩
set_option maxRecDepth 100000 in
set_option maxHeartbeats 2000000 in
theorem IsG (N : Int) (pe : Option Addr) (ne ce : Nat) (pw : Option Addr) (nw cw : Nat) (E : List (Int × Int)) (hs : List Hd) (W : List (List ByteArray)) (w : World) (hE : Rd w 2 pe ne (encE E)) (hW : RdW w pw nw hs W) (hz : SzW W) :
    Calls Tryz.prog 102 #[.agg #[.int .i64 N, .slice pe ne ce, .slice pw nw cw]] w fun e w' => e = .returned (.bool (isB N E W)) ∧ Ext w w' := by
  have hu : isB N E W = (checkB N E W && riseB lessE E && !W.any (fun l => !riseB sLess l)) := by unfold isB; rw [← List.all_eq_not_any_not]
  rw [hu]
  have HCk := Lib.hid (fun W1 (h : Ext w W1) => CheckG N pe ne ce pw nw cw E hs W W1 (hE.ext h) (hW.ext h) hz)
  have HRi := Lib.hid (fun W1 (h : Ext w W1) => RiseE pe ne ce E W1 (hE.ext h))
  have HCo := Lib.hid (fun W1 (h : Ext w W1) => ContainsRise pw nw cw hs W W1 (hW.ext h))
  clear hE hW hz hu
  generalize checkB N E W = b1 at *
  generalize riseB lessE E = b2 at *
  generalize W.any (fun l => !riseB sLess l) = b3 at *
  have hx : Ext w (w.alloc (.cells #[.int .i64 N, .slice pe ne ce, .slice pw nw cw] 112)) := (Below.refl _ _).alloc (Nat.le_refl _) _
  have c0 : (w.alloc (.cells #[.int .i64 N, .slice pe ne ce, .slice pw nw cw] 112)).cell? ⟨w.heap.size, 0, none⟩ = some (.int .i64 N) := by simp
  have c1 : (w.alloc (.cells #[.int .i64 N, .slice pe ne ce, .slice pw nw cw] 112)).cell? ⟨w.heap.size, 1, none⟩ = some (.slice pe ne ce) := by simp
  have c2 : (w.alloc (.cells #[.int .i64 N, .slice pe ne ce, .slice pw nw cw] 112)).cell? ⟨w.heap.size, 2, none⟩ = some (.slice pw nw cw) := by simp
  cases b1 <;> cases b2 <;> cases b3 <;>
  (go_enter Tryz.func102, Tryz.ntmps102
   go_wp2
   obtain ⟨wo, hwo⟩ : ∃ wo, wo = w.alloc (.cells #[.int .i64 N, .slice pe ne ce, .slice pw nw cw] 112) := ⟨_, rfl⟩
   rw [← hwo] at hx c0 c1 c2 ⊢
   have HX := Lib.hid hx
   have e0 : ∀ x : ExtOf wo, x.val.cell? ⟨w.heap.size, 0, none⟩ = _ := fun x => x.ext.cell c0
   have e1 : ∀ x : ExtOf wo, x.val.cell? ⟨w.heap.size, 1, none⟩ = _ := fun x => x.ext.cell c1
   have e2 : ∀ x : ExtOf wo, x.val.cell? ⟨w.heap.size, 2, none⟩ = _ := fun x => x.ext.cell c2
   refine wp_region_ext (by kernel_rfl) (by kernel_rfl) ?_
   repeat (go_big_quiet_step ((first | (go_at_call 134; exact Calls.ext_of (HCk.out _ (Ext.trans HX.out (ExtOf.ext _)))) | (go_at_call 136; exact Calls.ext_of (EdgesG _)) | (go_at_call 135; exact Calls.ext_of (HRi.out _ (Ext.trans HX.out (ExtOf.ext _)))) | (go_at_call 137; exact Calls.ext_of (HCo.out _ (Ext.trans HX.out (ExtOf.ext _)))))))
   refine wpQuiet_nil ?_
   rintro w1 ⟨⟨_, hb1⟩, rfl⟩
   go_wp2
   go_ret
   exact ⟨rfl, Ext.trans HX.out hb1⟩)
end Go.Proofs.YtkekibnhmfmhmaaGreat
/- The program's rows of a graph: Make. -/
namespace Go.Proofs.YtkekibnhmfmhmaaGreat
open Go Go.RowKit Go.Shelf Go.Lib
/-- rows that are read -/
def RowsV (w : World) (v : Value) (O T R V : List Int) : Prop :=
  ∃ po no co pt nt ct pr nr cr pv nv cv, v = .agg #[.slice po no co, .slice pt nt ct, .slice pr nr cr, .slice pv nv cv] ∧ Rd w 1 po no (encI O) ∧ Rd w 1 pt nt (encI T) ∧ Rd w 1 pr nr (encI R) ∧ Rd w 1 pv nv (encI V) ∧ no ≤ co ∧ nt ≤ ct ∧ nr ≤ cr ∧ nv ≤ cv
theorem RowsV.ext {w w' : World} {v : Value} {O T R V : List Int} (h : RowsV w v O T R V) (he : Ext w w') : RowsV w' v O T R V := by
  obtain ⟨po, no, co, pt, nt, ct, pr, nr, cr, pv, nv, cv, h0, h1, h2, h3, h4, h5⟩ := h
  exact ⟨po, no, co, pt, nt, ct, pr, nr, cr, pv, nv, cv, h0, h1.ext he, h2.ext he, h3.ext he, h4.ext he, h5⟩
def turnE (E : List (Int × Int)) : List (Int × Int) := putAll lessE (E.map swapE)
def rO (b : Bool) (n : Nat) (E : List (Int × Int)) : List Int := if b = true then offL n E else []
def rT (b : Bool) (E : List (Int × Int)) : List Int := if b = true then toL E else []
def rC (b : Bool) : Int := if b = true then 0 else 20
theorem turnE_bd {N : Int} {E : List (Int × Int)} (h : ∀ x ∈ E, edgeOk N x = true) : ∀ x ∈ turnE E, 0 ≤ x.1 ∧ x.1 < N := fun x hx => by
  unfold turnE at hx
  rw [putAll_mem stoE, List.mem_map] at hx
  obtain ⟨y, hy, rfl⟩ := hx
  have := h y hy
  unfold edgeOk at this
  simp at this
  unfold swapE
  simp only
  omega
set_option maxRecDepth 100000 in
set_option maxHeartbeats 4000000 in
theorem RMakeG_no (N : Int) (pe : Option Addr) (ne ce : Nat) (pw : Option Addr) (nw cw : Nat) (E : List (Int × Int)) (hs : List Hd) (W : List (List ByteArray)) (w : World) (hE : Rd w 2 pe ne (encE E)) (hW : RdW w pw nw hs W) (hz : SzW W) (hi : isB N E W = false) :
    Calls Tryz.prog 73 #[.agg #[.int .i64 N, .slice pe ne ce, .slice pw nw cw]] w fun e w' => e = .returned (.tuple #[.agg #[.slice none 0 0, .slice none 0 0, .slice none 0 0, .slice none 0 0], .int .i64 20]) ∧ Ext w w' := by
  have HI := Lib.hid (fun W1 (h : Ext w W1) => IsG N pe ne ce pw nw cw E hs W W1 (hE.ext h) (hW.ext h) hz)
  rw [hi] at HI
  have S0 := Lib.hid (((Sep.start w).al #[.int .i64 N, .slice pe ne ce, .slice pw nw cw] 112 w.heap.size rfl).al #[.slice none 0 0, .slice none 0 0, .slice none 0 0, .slice none 0 0] 41 (w.heap.size + 1) (by simp))
  clear hE hW hz hi
  go_enter Tryz.func73, Tryz.ntmps73
  go_wp2_with (go_at_call 102; go_must (refine (HI.out _ S0.out.ext).mono ?_; rintro e w1 ⟨rfl, hb⟩; have S1 := Lib.hid (S0.out.call hb); have a0 := (S1.out.blk 0 rfl).cell 0; have a1 := (S1.out.blk 0 rfl).cell 1; have a2 := (S1.out.blk 0 rfl).cell 2; have a3 := (S1.out.blk 0 rfl).cell 3; have b0 := (S1.out.blk 0 rfl).frozen 0; have b1 := (S1.out.blk 0 rfl).frozen 1; have b2 := (S1.out.blk 0 rfl).frozen 2; have b3 := (S1.out.blk 0 rfl).frozen 3; have zb := (S1.out.blk 0 rfl).lt; clear hb))
  have S4 := (((S1.out.set 0 rfl 0 (.slice none 0 0)).set 0 rfl 1 (.slice none 0 0)).set 0 rfl 2 (.slice none 0 0)).set 0 rfl 3 (.slice none 0 0)
  have k0 := (S4.blk 0 rfl).cell 0
  have k1 := (S4.blk 0 rfl).cell 1
  have k2 := (S4.blk 0 rfl).cell 2
  have k3 := (S4.blk 0 rfl).cell 3
  refine bodyPost_ret (v := .tuple #[.agg #[.slice none 0 0, .slice none 0 0, .slice none 0 0, .slice none 0 0], .int .i64 20]) (by simp [results, Tryz.results73, go_sem, k0, k1, k2, k3, Tryz.sizeOf41, Tryz.isAgg41]) rfl ⟨rfl, S4.ext⟩
set_option maxRecDepth 100000 in
set_option maxHeartbeats 8000000 in
theorem RMakeG_yes (n : Nat) (pe : Option Addr) (ne ce : Nat) (pw : Option Addr) (nw cw : Nat) (E : List (Int × Int)) (hs : List Hd) (W : List (List ByteArray)) (w : World) (hE : Rd w 2 pe ne (encE E)) (hW : RdW w pw nw hs W) (hz : SzW W) (hi : isB n E W = true) :
    Calls Tryz.prog 73 #[.agg #[.int .i64 n, .slice pe ne ce, .slice pw nw cw]] w fun e w' => ∃ v, e = .returned (.tuple #[v, .int .i64 0]) ∧ RowsV w' v (offL n E) (toL E) (offL n (turnE E)) (toL (turnE E)) ∧ Ext w w' := by
  have HI := Lib.hid (fun W1 (h : Ext w W1) => IsG n pe ne ce pw nw cw E hs W W1 (hE.ext h) (hW.ext h) hz)
  rw [hi] at HI
  have hc : checkB n E W = true := by
    unfold isB at hi
    rw [Bool.and_eq_true, Bool.and_eq_true] at hi
    exact hi.1.1
  obtain ⟨h1, h2, h3, h4, h5, h6⟩ := checkB_parts hc
  have hEb : ∀ x ∈ E, edgeOk n x = true := List.all_eq_true.1 h5
  have l1 := hE.nE
  have HT := Lib.hid (fun W1 (h : Ext w W1) => TurnedG n pe ne ce pw nw cw E hs W W1 (hE.ext h) (hW.ext h) hz (by omega))
  have hcs : checkB n (E.map swapE) W = true := by rw [check_swap]; exact hc
  obtain ⟨a1, a2, a3, a4⟩ := norm_of hcs (rfl : _ = turnE E) (rfl : _ = W.map (putAll sLess))
  rw [a1, a2, a3, a4] at HT
  have hlt : (turnE E).length ≤ 2000 := by
    unfold turnE
    have := putAll_len lessE (E.map swapE)
    rw [List.length_map] at this; omega
  have HL1 := Lib.hid (fun W1 (h : Ext w W1) => laidG n pe ne ce E W1 (hE.ext h) (by omega) (by omega) (fun x hx => by have := hEb x hx; unfold edgeOk at this; simp at this; omega))
  have HL2 := Lib.hid (fun q c W1 (h : Rd W1 2 q (turnE E).length (encE (turnE E))) => laidG n q (turnE E).length c (turnE E) W1 h (by omega) hlt (turnE_bd hEb))
  generalize turnE E = F at *
  have S0 := Lib.hid (((Sep.start w).al #[.int .i64 n, .slice pe ne ce, .slice pw nw cw] 112 w.heap.size rfl).al #[.slice none 0 0, .slice none 0 0, .slice none 0 0, .slice none 0 0] 41 (w.heap.size + 1) (by simp))
  have h2' : n ≤ 200 := by omega
  have h3' : ne ≤ 2000 := by omega
  generalize W.map (putAll sLess) = V at *
  clear hE hW hz hi hc hcs a1 a2 a3 a4 h1 h2 h3 h4 h5 h6 hEb l1
  go_enter Tryz.func73, Tryz.ntmps73
  go_wp2_with (first
    | (go_at_call 104; have _t := T4; go_must (refine (HL2.out q2 k2 _ ((K2.out.ext T4.out.ext).get 0 rfl)).mono ?_; rintro e w5 ⟨qr, cr, qv, cv, rfl, T⟩; have T5 := Lib.hid (T4.out.comp T); have r0 := (T5.out.blk 4 rfl).cell 0; have r1 := (T5.out.blk 4 rfl).cell 1; have r2c := (T5.out.blk 4 rfl).cell 2; have r3 := (T5.out.blk 4 rfl).cell 3; have rf2 := (T5.out.blk 4 rfl).frozen 2; have rf3 := (T5.out.blk 4 rfl).frozen 3; have rz := (T5.out.blk 4 rfl).lt; have S5 := S2.out.comp T5.out; have u0 := (S5.blk 6 rfl).cell 0; have u1 := (S5.blk 6 rfl).cell 1; have u2 := (S5.blk 6 rfl).cell 2; have u3 := (S5.blk 6 rfl).cell 3; have uf0 := (S5.blk 6 rfl).frozen 0; have uf1 := (S5.blk 6 rfl).frozen 1; have uf2 := (S5.blk 6 rfl).frozen 2; have uf3 := (S5.blk 6 rfl).frozen 3; have uz := (S5.blk 6 rfl).lt; clear T S5))
    | (go_at_call 104; have _t := S2; go_must (refine (HL1.out _ (Ext.trans S2.out.ext (((Sep.start w2).al #[.int .i64 n, .slice q2 F.length k2, .slice r2 V.length m2] 112 w2.heap.size rfl).al #[.slice none 0 0, .slice none 0 0, .slice none 0 0, .slice none 0 0] 41 (w2.heap.size + 1) (by simp)).ext)).mono ?_; rintro e w4 ⟨qo, co, qt, ct, rfl, T⟩; have T3 := (((Sep.start w2).al #[.int .i64 n, .slice q2 F.length k2, .slice r2 V.length m2] 112 w2.heap.size rfl).al #[.slice none 0 0, .slice none 0 0, .slice none 0 0, .slice none 0 0] 41 (w2.heap.size + 1) (by simp)).comp T; have c0 := (T3.blk 2 rfl).cell 0; have c1 := (T3.blk 2 rfl).cell 1; have f0 := (T3.blk 2 rfl).frozen 0; have f1 := (T3.blk 2 rfl).frozen 1; have cz := (T3.blk 2 rfl).lt; have t1 := (T3.blk 3 rfl).cell 1; have tz := (T3.blk 3 rfl).lt; have S3 := S2.out.comp T3; have n0 := (S3.blk 5 rfl).cell 0; have nz := (S3.blk 5 rfl).lt; have T4 := Lib.hid ((T3.set 2 rfl 0 (.slice qo (n + 1) co)).set 2 rfl 1 (.slice qt ne ct)); clear T T3 S3))
    | (go_at_call 103; have _t := S1; go_must (refine (HT.out _ S1.out.ext).mono ?_; rintro e w2 ⟨va, rfl, ⟨q2, k2, r2, m2, h2, rfl, oe, ow⟩, hb⟩; have S2 := Lib.hid (S1.out.call hb); have K2 := Lib.hid ((Kn.nil w2).add (fun w => Rd w 2 q2 F.length (encE F)) (fun _ he => (Rd.of_own oe (by omega)).ext he)); have gz := (S2.out.blk 1 rfl).lt; have g0 := (S2.out.blk 1 rfl).cell 0; have g1 := (S2.out.blk 1 rfl).cell 1; have g2 := (S2.out.blk 1 rfl).cell 2; have gz2 := (S2.out.blk 0 rfl).lt; clear hb oe ow))
    | (go_at_call 102; go_must (refine (HI.out _ S0.out.ext).mono ?_; rintro e w1 ⟨rfl, hb⟩; have S1 := Lib.hid (S0.out.call hb); have xz := (S1.out.blk 1 rfl).lt; have x0 := (S1.out.blk 1 rfl).cell 0; have x1 := (S1.out.blk 1 rfl).cell 1; have x2 := (S1.out.blk 1 rfl).cell 2; clear hb)))
  have S6 := S2.out.comp ((T5.out.set 4 rfl 2 (.slice qr (n + 1) cr)).set 4 rfl 3 (.slice qv F.length cv))
  have S7 := (((S6.set 6 rfl 0 (.slice qo (n + 1) co)).set 6 rfl 1 (.slice qt ne ct)).set 6 rfl 2 (.slice qr (n + 1) cr)).set 6 rfl 3 (.slice qv F.length cv)
  have b0 := (S7.blk 6 rfl).cell 0
  have b1 := (S7.blk 6 rfl).cell 1
  have b2 := (S7.blk 6 rfl).cell 2
  have b3 := (S7.blk 6 rfl).cell 3
  refine bodyPost_ret (v := .tuple #[.agg #[.slice qo (n + 1) co, .slice qt ne ct, .slice qr (n + 1) cr, .slice qv F.length cv], .int .i64 0]) (by simp [results, Tryz.results73, go_sem, b0, b1, b2, b3, Tryz.sizeOf41, Tryz.isAgg41]) rfl ⟨_, rfl, ?_, S7.ext⟩
  exact ⟨qo, _, co, qt, _, ct, qr, _, cr, qv, _, cv, rfl, S7.rd 3 rfl (by omega), S7.rd 2 rfl (by omega), S7.rd 1 rfl (by omega), S7.rd 0 rfl (by omega), own_cap (S7.own 3 rfl), own_cap (S7.own 2 rfl), own_cap (S7.own 1 rfl), own_cap (S7.own 0 rfl)⟩
theorem RMakeG (N : Int) (pe : Option Addr) (ne ce : Nat) (pw : Option Addr) (nw cw : Nat) (E : List (Int × Int)) (hs : List Hd) (W : List (List ByteArray)) (w : World) (hE : Rd w 2 pe ne (encE E)) (hW : RdW w pw nw hs W) (hz : SzW W) :
    Calls Tryz.prog 73 #[.agg #[.int .i64 N, .slice pe ne ce, .slice pw nw cw]] w fun e w' => ∃ v, e = .returned (.tuple #[v, .int .i64 (rC (isB N E W))]) ∧ RowsV w' v (rO (isB N E W) N.toNat E) (rT (isB N E W) E) (rO (isB N E W) N.toNat (turnE E)) (rT (isB N E W) (turnE E)) ∧ Ext w w' := by
  cases hi : isB N E W with
  | false =>
    refine (RMakeG_no N pe ne ce pw nw cw E hs W w hE hW hz hi).mono ?_
    rintro e w' ⟨rfl, h⟩
    exact ⟨_, rfl, ⟨none, 0, 0, none, 0, 0, none, 0, 0, none, 0, 0, rfl, Rd.nil _ _ _, Rd.nil _ _ _, Rd.nil _ _ _, Rd.nil _ _ _, Nat.le_refl _, Nat.le_refl _, Nat.le_refl _, Nat.le_refl _⟩, h⟩
  | true =>
    have hN : 1 ≤ N := by
      unfold isB at hi
      rw [Bool.and_eq_true, Bool.and_eq_true] at hi
      exact (checkB_parts hi.1.1).1
    obtain ⟨n, rfl⟩ : ∃ n : Nat, N = (n : Int) := ⟨N.toNat, by omega⟩
    exact RMakeG_yes n pe ne ce pw nw cw E hs W w hE hW hz hi
end Go.Proofs.YtkekibnhmfmhmaaGreat
/- Rows made of a graph are right, and tell the graph's edges; rows that are right tell the same, either way. No program in sight. -/
namespace Go.Proofs.YtkekibnhmfmhmaaGreat
open Go Go.RowKit
theorem nodup_le {α : Type} [DecidableEq α] : ∀ {l m : List α}, l.Nodup → (∀ x ∈ l, x ∈ m) → l.length ≤ m.length
  | [], _, _, _ => by simp
  | a :: l, m, h, hm => by
    obtain ⟨h1, h2⟩ := List.nodup_cons.1 h
    have ha := hm a (by simp)
    have ih := nodup_le (m := m.erase a) h2 fun x hx => (List.mem_erase_of_ne (fun e => h1 (by rw [← e]; exact hx))).2 (hm x (by simp [hx]))
    rw [List.length_erase_of_mem ha] at ih
    have := List.length_pos_of_mem ha
    rw [List.length_cons]; omega
theorem rises_pick {α : Type} {lt : α → α → Bool} {l m : List α} (h : Rises lt l) (hs : m.Sublist l) : Rises lt m := List.Pairwise.sublist hs h
section
variable {n : Nat} {A : List (Int × Int)}
/-- the k-th offset is the length of what comes ahead -/
theorem off_at (hb : ∀ x ∈ A, 0 ≤ x.1 ∧ x.1 < n) {k : Nat} (hk : k < n + 1) : (nth (offL n A) k).toNat = (placesK A k).length := by
  rw [offL_nth A hk, placesK_len A (fun x hx => (hb x hx).1) k]; omega
theorem to_split (h : Rises lessE A) (hb : ∀ x ∈ A, 0 ≤ x.1 ∧ x.1 < n) {k : Nat} (hk : k < n) : ∃ t, toL A = (placesK A k).map (·.2) ++ ((placeE A k).map (·.2) ++ t) := by
  have h1 : placesK A n = A := places_all h hb
  have h2 : ∀ d j, ∃ t, placesK A (j + d) = placesK A j ++ t := by
    intro d
    induction d with
    | zero => intro j; exact ⟨[], by simp⟩
    | succ d ih =>
      intro j
      obtain ⟨t, ht⟩ := ih j
      exact ⟨t ++ placeE A (j + d), by rw [← Nat.add_assoc, placesK_step, ht, List.append_assoc]⟩
  obtain ⟨t, ht⟩ := h2 (n - (k + 1)) (k + 1)
  rw [show k + 1 + (n - (k + 1)) = n by omega, h1] at ht
  refine ⟨t.map (·.2), ?_⟩
  unfold toL
  conv => lhs; rw [ht, placesK_step]
  simp
theorem row_of (h : Rises lessE A) (hb : ∀ x ∈ A, 0 ≤ x.1 ∧ x.1 < n) {k : Nat} (hk : k < n) : rowL (offL n A) (toL A) k = (placeE A k).map (·.2) := by
  obtain ⟨t, ht⟩ := to_split h hb hk
  unfold rowL
  rw [off_at hb (by omega), off_at hb (by omega), placesK_step, List.length_append, ht]
  rw [List.drop_left' (by simp), Nat.add_sub_cancel_left, List.take_left' (by simp)]
theorem rowX_of (h : Rises lessE A) (hb : ∀ x ∈ A, 0 ≤ x.1 ∧ x.1 < n) {k : Nat} (hk : k < n) : rowX (offL n A) (toL A) k = placeE A k := by
  unfold rowX
  rw [row_of h hb hk, List.map_map]
  conv => rhs; rw [← List.map_id (placeE A k)]
  refine List.map_congr_left fun x hx => ?_
  unfold placeE at hx
  rw [List.mem_filter, decide_eq_true_eq] at hx
  simp only [Function.comp, id]
  rw [← hx.2]
theorem pairs_of (h : Rises lessE A) (hb : ∀ x ∈ A, 0 ≤ x.1 ∧ x.1 < n) : pairs (offL n A) (toL A) = A := by
  have : ∀ k, k ≤ n → pairsK (offL n A) (toL A) k = placesK A k := by
    intro k
    induction k with
    | zero => intro _; rfl
    | succ k ih => intro hk; rw [pairsK_step, placesK_step, ih (by omega), rowX_of h hb (by omega)]
  unfold pairs
  rw [offL_len, Nat.add_sub_cancel, this n (Nat.le_refl _), places_all h hb]
theorem half_of (h : Rises lessE A) (hb : ∀ x ∈ A, 0 ≤ x.1 ∧ x.1 < n ∧ 0 ≤ x.2 ∧ x.2 < n) (h1 : 1 ≤ n) (h2 : n ≤ 200) (h3 : A.length ≤ 2000) : halfB (offL n A) (toL A) = true := by
  have hb' : ∀ x ∈ A, 0 ≤ x.1 ∧ x.1 < n := fun x hx => ⟨(hb x hx).1, (hb x hx).2.1⟩
  have e0 : nth (offL n A) 0 = 0 := by
    rw [offL_nth A (by omega), List.countP_eq_zero.2 fun x hx => by have := (hb x hx).1; simp; omega]; rfl
  have en : nth (offL n A) n = A.length := by
    rw [offL_nth A (by omega), List.countP_eq_length.2 fun x hx => by have := (hb x hx).2.1; simp; omega]
  have es : sortB (offL n A) = true := by
    unfold sortB
    rw [List.all_eq_true]
    intro v hv
    rw [List.mem_range, offL_len] at hv
    rw [offL_nth A (by omega), offL_nth A (by omega), count_step]
    simp; omega
  unfold halfB offB
  rw [offL_len, e0, Nat.add_sub_cancel, en, es]
  have : (toL A).length = A.length := by simp [toL]
  rw [this]
  rw [decide_eq_true (by omega : 2 ≤ n + 1), decide_eq_true (by omega : n + 1 ≤ 201), decide_eq_true h3]
  simp only [decide_true, Bool.true_and, List.all_eq_true]
  intro v hv
  rw [List.mem_range] at hv
  rw [okRow_iff, row_of h hb' hv]
  refine ⟨fun x hx => ?_, ?_⟩
  · obtain ⟨y, hy, rfl⟩ := List.mem_map.1 hx
    unfold placeE at hy
    exact (hb y (List.mem_filter.1 hy).1).2.2
  · rw [Rises, List.pairwise_map]
    refine (h.sublist (List.filter_sublist (p := fun x : Int × Int => decide (x.1 = (v:Int))))).imp_of_mem fun {a b} ha hb hab => ?_
    have ha := List.mem_filter.1 ha
    have hb := List.mem_filter.1 hb
    rw [decide_eq_true_eq] at ha hb
    rw [lessE_iff] at hab
    simp only [ltI, decide_eq_true_eq]
    omega
end
theorem mem_row_of {n : Nat} {A : List (Int × Int)} (h : Rises lessE A) (hb : ∀ x ∈ A, 0 ≤ x.1 ∧ x.1 < n) {k : Nat} (hk : k < n) {y : Int} : y ∈ rowL (offL n A) (toL A) k ↔ ((k:Int), y) ∈ A := by
  rw [row_of h hb hk, List.mem_map]
  unfold placeE
  constructor
  · rintro ⟨x, hx, rfl⟩
    rw [List.mem_filter, decide_eq_true_eq] at hx
    rw [← hx.2]; exact hx.1
  · intro hx; exact ⟨_, List.mem_filter.2 ⟨hx, by simp⟩, rfl⟩
theorem turnE_mem {E : List (Int × Int)} {x : Int × Int} : x ∈ turnE E ↔ swapE x ∈ E := by
  unfold turnE
  rw [putAll_mem stoE, List.mem_map]
  constructor
  · rintro ⟨y, hy, rfl⟩; exact hy
  · intro h; exact ⟨_, h, rfl⟩
theorem turnE_rises (E : List (Int × Int)) : Rises lessE (turnE E) := putAll_rises stoE _
/-- what is made is right -/
theorem check_of {n : Nat} {A : List (Int × Int)} (h : Rises lessE A) (hb : ∀ x ∈ A, 0 ≤ x.1 ∧ x.1 < n ∧ 0 ≤ x.2 ∧ x.2 < n) (h1 : 1 ≤ n) (h2 : n ≤ 200) (h3 : A.length ≤ 2000) :
    checkR (offL n A) (toL A) (offL n (turnE A)) (toL (turnE A)) = true := by
  have hb' : ∀ x ∈ A, 0 ≤ x.1 ∧ x.1 < n := fun x hx => ⟨(hb x hx).1, (hb x hx).2.1⟩
  have hbt : ∀ x ∈ turnE A, 0 ≤ x.1 ∧ x.1 < n ∧ 0 ≤ x.2 ∧ x.2 < n := fun x hx => by
    have := hb _ (turnE_mem.1 hx)
    unfold swapE at this
    simp only at this
    omega
  have hbt' : ∀ x ∈ turnE A, 0 ≤ x.1 ∧ x.1 < n := fun x hx => ⟨(hbt x hx).1, (hbt x hx).2.1⟩
  have hnd : A.Nodup := h.imp fun {a b} hab e => by subst e; rw [lessE_iff] at hab; omega
  have hlen : (turnE A).length = A.length := by
    refine Nat.le_antisymm ?_ ?_
    · have := putAll_len lessE (A.map swapE); rw [List.length_map] at this; exact this
    · have hnt : (turnE A).Nodup := (turnE_rises A).imp fun {a b} hab e => by subst e; rw [lessE_iff] at hab; omega
      have : A.Nodup := hnd
      have h4 := nodup_le (m := (turnE A).map swapE) hnd fun x hx => List.mem_map.2 ⟨swapE x, turnE_mem.2 (by rw [swapE_swapE]; exact hx), swapE_swapE x⟩
      rwa [List.length_map] at h4
  unfold checkR
  rw [half_of h hb h1 h2 h3, half_of (turnE_rises A) hbt h1 h2 (by omega), pairs_of h hb', offL_len, offL_len]
  have e1 : (toL A).length = (toL (turnE A)).length := by simp [toL, hlen]
  rw [decide_eq_true e1]
  simp only [decide_true, Bool.true_and, List.all_eq_true]
  intro x hx
  rw [inB_iff]
  have hx2 := hb x hx
  obtain ⟨u, hu⟩ : ∃ u : Nat, x.2 = (u:Int) := ⟨x.2.toNat, by omega⟩
  rw [hu, Int.toNat_natCast, mem_row_of (turnE_rises A) hbt' (by omega), turnE_mem]
  have : swapE ((u:Int), x.1) = x := by unfold swapE; simp only; rw [← hu]
  rw [this]; exact hx
/-! ### rows that are right tell the same, either way -/
theorem pairs_rises {O T : List Int} (h : halfB O T = true) : ∀ k, k ≤ O.length - 1 → Rises lessE (pairsK O T k)
  | 0, _ => List.Pairwise.nil
  | k + 1, hk => by
    rw [pairsK_step]
    refine List.pairwise_append.2 ⟨pairs_rises h k (by omega), ?_, fun a ha b hb => ?_⟩
    · unfold rowX
      rw [List.pairwise_map]
      refine (row_rises h (by omega)).imp fun {a b} hab => ?_
      rw [lessE_iff]
      simp [ltI] at hab
      right; exact ⟨rfl, hab⟩
    · unfold pairsK rowX at ha
      unfold rowX at hb
      simp only [List.mem_flatMap, List.mem_range, List.mem_map] at ha hb
      obtain ⟨v, h1, y, _, rfl⟩ := ha
      obtain ⟨z, _, rfl⟩ := hb
      rw [lessE_iff]; left; simp only; omega
theorem pairs_count {O T : List Int} (h : halfB O T = true) : (pairs O T).length = T.length := by
  obtain ⟨r1, r2, r3, r4, r5, r6⟩ := offB_parts (halfB_off h)
  have hok := offOk_of (halfB_off h)
  have : ∀ k, k < O.length → (pairsK O T k).length = (nth O k).toNat := by
    intro k
    induction k with
    | zero => intro _; rw [r4]; rfl
    | succ k ih =>
      intro hk
      rw [pairsK_step, List.length_append, ih (by omega)]
      unfold rowX
      rw [List.length_map, rowL_len hok hk]
      have := hok.le k hk
      have := hok.lo k (by omega)
      omega
  unfold pairs
  rw [this _ (by omega), r5]; omega
theorem mem_all {α : Type} [DecidableEq α] {l m : List α} (h : l.Nodup) (hs : ∀ x ∈ l, x ∈ m) (hl : m.length ≤ l.length) {x : α} (hx : x ∈ m) : x ∈ l := by
  by_cases hn : x ∈ l
  · exact hn
  · have h1 := nodup_le (m := m.erase x) h fun y hy => (List.mem_erase_of_ne (fun (e : y = x) => hn (by rw [← e]; exact hy))).2 (hs y hy)
    rw [List.length_erase_of_mem hx] at h1
    have := List.length_pos_of_mem hx
    omega
/-- each pair of the other rows stands in these, turned -/
theorem check_turn {O T R V : List Int} (h : checkR O T R V = true) {x : Int × Int} : x ∈ pairs O T ↔ swapE x ∈ pairs R V := by
  obtain ⟨h1, h2, h3, h4⟩ := checkR_half h
  have hall : ∀ y ∈ pairs O T, swapE y ∈ pairs R V := fun y hy => by
    unfold checkR at h
    simp only [Bool.and_eq_true, List.all_eq_true] at h
    have h5 := h.2 y hy
    rw [inB_iff] at h5
    have hb := pair_bd h3 hy
    exact mem_pairs.2 ⟨y.2.toNat, by omega, by unfold swapE; simp only; omega, h5⟩
  refine ⟨hall x, fun hx => ?_⟩
  have hnd : (pairs O T).Nodup := (pairs_rises h3 _ (Nat.le_refl _)).imp fun {a b} hab e => by subst e; rw [lessE_iff] at hab; omega
  have hnd2 : ((pairs O T).map swapE).Nodup := by
    rw [List.Nodup, List.pairwise_map]
    exact hnd.imp fun {a b} hab e => hab (by have := congrArg swapE e; rwa [swapE_swapE, swapE_swapE] at this)
  have h6 := mem_all hnd2 (fun y hy => by obtain ⟨z, hz, rfl⟩ := List.mem_map.1 hy; exact hall z hz) (by rw [List.length_map, pairs_count h3, pairs_count h4, h2]; exact Nat.le_refl _) hx
  obtain ⟨z, hz, e⟩ := List.mem_map.1 h6
  have : z = x := by have := congrArg swapE e; rwa [swapE_swapE, swapE_swapE] at this
  exact this ▸ hz
theorem row_turn {O T R V : List Int} (h : checkR O T R V = true) {v u : Nat} (hv : v < O.length - 1) (hu : u < O.length - 1) : inB (rowL O T u) v = inB (rowL R V v) u := by
  have h1 := (checkR_half h).1
  rw [Bool.eq_iff_iff, inB_iff, inB_iff]
  have e1 : (v:Int) ∈ rowL O T u ↔ ((u:Int), (v:Int)) ∈ pairs O T := by
    rw [mem_pairs]
    constructor
    · intro h; exact ⟨u, hu, rfl, h⟩
    · rintro ⟨k, _, h2, h3⟩; simp only at h2; have : u = k := by omega
      subst this; exact h3
  have e2 : (u:Int) ∈ rowL R V v ↔ ((v:Int), (u:Int)) ∈ pairs R V := by
    rw [mem_pairs]
    constructor
    · intro h; exact ⟨v, by omega, rfl, h⟩
    · rintro ⟨k, _, h2, h3⟩; simp only at h2; have : v = k := by omega
      subst this; exact h3
  rw [e1, e2, check_turn h]; rfl
end Go.Proofs.YtkekibnhmfmhmaaGreat
/- Rows that are right: where places lead to, forth and back. -/
namespace Go.Proofs.YtkekibnhmfmhmaaGreat
open Go Go.RowKit
/-- where a place leads to -/
def nxR (back : Bool) (O T R V : List Int) : Nat → List Int := if back = true then rowL R V else rowL O T
theorem row_in {O T : List Int} (h : halfB O T = true) : InN (rowL O T) (O.length - 1) := by
  intro u hu x hx
  unfold halfB at h
  rw [Bool.and_eq_true] at h
  have := List.all_eq_true.1 h.2 u (List.mem_range.2 hu)
  exact (okRow_iff.1 this).1 x hx
theorem nxR_in {O T R V : List Int} (h : checkR O T R V = true) (back : Bool) : InN (nxR back O T R V) (O.length - 1) := by
  obtain ⟨h1, h2, h3, h4⟩ := checkR_half h
  cases back with
  | false => exact row_in h3
  | true => have := row_in h4; rw [← h1] at this; exact this
theorem nxR_rev {O T R V : List Int} (h : checkR O T R V = true) (back : Bool) : Rev (nxR back O T R V) (nxR (!back) O T R V) (O.length - 1) := by
  have key : ∀ u v : Nat, u < O.length - 1 → v < O.length - 1 → ((v : Int) ∈ rowL O T u ↔ (u : Int) ∈ rowL R V v) := fun u v hu hv => by
    have := row_turn h hv hu
    rw [Bool.eq_iff_iff, inB_iff, inB_iff] at this
    exact this
  cases back with
  | false => exact key
  | true => exact fun u v hu hv => (key v u hv hu).symm
/-- all ways, in a direction -/
def edgD (back : Bool) (O T : List Int) : List (Int × Int) := if back = true then (pairs O T).map swapE else pairs O T
theorem edgD_bd {O T : List Int} (h : halfB O T = true) (back : Bool) : ∀ x ∈ edgD back O T, 0 ≤ x.1 ∧ x.1 < ((O.length - 1 : Nat) : Int) ∧ 0 ≤ x.2 ∧ x.2 < ((O.length - 1 : Nat) : Int) := by
  intro x hx
  cases back with
  | false => exact pair_bd h hx
  | true =>
    obtain ⟨y, hy, rfl⟩ := List.mem_map.1 hx
    have := pair_bd h hy
    exact ⟨this.2.2.1, this.2.2.2, this.1, this.2.1⟩
theorem edgD_mem {O T R V : List Int} (h : checkR O T R V = true) (back : Bool) : ∀ u v : Nat, u < O.length - 1 → v < O.length - 1 → (((u : Int), (v : Int)) ∈ edgD back O T ↔ (v : Int) ∈ nxR back O T R V u) := by
  have key : ∀ u v : Nat, u < O.length - 1 → (((u : Int), (v : Int)) ∈ pairs O T ↔ (v : Int) ∈ rowL O T u) := fun u v hu => by
    rw [mem_pairs]
    constructor
    · rintro ⟨k, h1, h2, h3⟩
      have : u = k := by simp only at h2; omega
      subst this; exact h3
    · intro h1; exact ⟨u, hu, rfl, h1⟩
  intro u v hu hv
  cases back with
  | false => exact key u v hu
  | true =>
    have e : ((u : Int), (v : Int)) ∈ edgD true O T ↔ ((v : Int), (u : Int)) ∈ pairs O T := by
      show _ ∈ (pairs O T).map swapE ↔ _
      rw [List.mem_map]
      constructor
      · rintro ⟨y, hy, e⟩
        unfold swapE at e
        injection e with e1 e2
        rw [← e1, ← e2]; exact hy
      · intro h1; exact ⟨_, h1, rfl⟩
    rw [e, key v u hv]
    exact (nxR_rev h true u v hu hv).symm
theorem row_rises8 {O T R V : List Int} (h : checkR O T R V = true) (back : Bool) {u : Nat} (hu : u < O.length - 1) : Rises ltI (nxR back O T R V u) := by
  obtain ⟨h1, h2, h3, h4⟩ := checkR_half h
  cases back with
  | false => exact row_rises h3 hu
  | true => exact row_rises h4 (by omega)
/-- levels, as the chapter says: a row; the error -/
def levC (ck : Bool) (O : List Int) (s : Int) : Int := if ck = true then (if 0 ≤ s ∧ s < (O.length : Int) - 1 then 0 else 1) else 40
def levR (ck back : Bool) (O T R V : List Int) (s : Int) : List Int := if levC ck O s = 0 then (List.range (O.length - 1)).map fun v => lev (nxR back O T R V) (O.length - 1) s.toNat v else []
end Go.Proofs.YtkekibnhmfmhmaaGreat
/- The order of places by their ways (chapter 11), in plain Lean. -/
namespace Go.Proofs.YtkekibnhmfmhmaaGreat
open Go Go.RowKit
/-- more ways first; of as many the lesser place -/
def ltW (a b : Int × Int) : Bool := decide (b.2 < a.2) || (decide (a.2 = b.2) && decide (a.1 < b.1))
theorem ltW_iff {a b : Int × Int} : ltW a b = true ↔ b.2 < a.2 ∨ (a.2 = b.2 ∧ a.1 < b.1) := by
  unfold ltW
  rw [Bool.or_eq_true, Bool.and_eq_true, decide_eq_true_eq, decide_eq_true_eq, decide_eq_true_eq]
theorem ltW_no {a b : Int × Int} : ltW a b = false ↔ ¬ (b.2 < a.2 ∨ (a.2 = b.2 ∧ a.1 < b.1)) := by
  rw [← ltW_iff]; simp
theorem stoW : STO ltW where
  irrefl a := by rw [ltW_no]; omega
  trans a b c h k := by rw [ltW_iff] at *; omega
  tri a b h k := by rw [ltW_no] at *; exact Prod.ext (by omega) (by omega)
/-- how many ways a place has -/
def wayN (O R : List Int) (v : Nat) : Int := nth O (v + 1) - nth O v + nth R (v + 1) - nth R v
/-- places with their ways -/
def waysP (O R : List Int) (n : Nat) : List (Int × Int) := (List.range n).map fun v : Nat => ((v : Int), wayN O R v)
theorem waysP_len (O R : List Int) (n : Nat) : (waysP O R n).length = n := by simp [waysP]
theorem waysP_nodup (O R : List Int) (n : Nat) : (waysP O R n).Nodup := by
  unfold waysP
  refine List.Pairwise.map _ (fun a b h e => h ?_) List.nodup_range
  have := congrArg Prod.fst e
  simp only at this
  omega
theorem waysP_mem {O R : List Int} {n : Nat} {x : Int × Int} : x ∈ waysP O R n ↔ ∃ v : Nat, v < n ∧ x = ((v : Int), wayN O R v) := by
  unfold waysP
  rw [List.mem_map]
  constructor
  · rintro ⟨v, h, rfl⟩; exact ⟨v, List.mem_range.1 h, rfl⟩
  · rintro ⟨v, h, rfl⟩; exact ⟨v, List.mem_range.2 h, rfl⟩
theorem waysP_step (O R : List Int) (n : Nat) : waysP O R (n + 1) = waysP O R n ++ [((n : Int), wayN O R n)] := by
  unfold waysP; rw [List.range_succ, List.map_append]; rfl
/-- what the document says: of each number of ways, the greatest first, the places -/
def byP (O R : List Int) (n k : Nat) : List (Int × Int) := (List.range k).flatMap fun i : Nat => ((List.range n).filter fun v => wayN O R v == 4000 - (i : Int)).map fun v : Nat => ((v : Int), wayN O R v)
def byL (O R : List Int) (n : Nat) : List Int := (byP O R n 4001).map (·.1)
theorem byP_step (O R : List Int) (n k : Nat) : byP O R n (k + 1) = byP O R n k ++ ((List.range n).filter fun v => wayN O R v == 4000 - (k : Int)).map fun v : Nat => ((v : Int), wayN O R v) := by
  unfold byP; rw [List.range_succ, List.flatMap_append]; simp
theorem byP_mem {O R : List Int} {n k : Nat} {x : Int × Int} : x ∈ byP O R n k ↔ ∃ v : Nat, v < n ∧ x = ((v : Int), wayN O R v) ∧ wayN O R v ≤ 4000 ∧ 4000 - k < wayN O R v := by
  unfold byP
  rw [List.mem_flatMap]
  constructor
  · rintro ⟨i, hi, hx⟩
    obtain ⟨v, hv, rfl⟩ := List.mem_map.1 hx
    obtain ⟨h1, h2⟩ := List.mem_filter.1 hv
    have hi' := List.mem_range.1 hi
    have h3 : wayN O R v = 4000 - i := by simpa using h2
    exact ⟨v, List.mem_range.1 h1, rfl, by omega, by omega⟩
  · rintro ⟨v, h1, rfl, h2, h3⟩
    refine ⟨(4000 - wayN O R v).toNat, List.mem_range.2 (by omega), List.mem_map.2 ⟨v, List.mem_filter.2 ⟨List.mem_range.2 h1, ?_⟩, rfl⟩⟩
    simp; omega
theorem byP_rises (O R : List Int) (n : Nat) : ∀ k, Rises ltW (byP O R n k)
  | 0 => by simp [byP]
  | k + 1 => by
    rw [byP_step, Rises, List.pairwise_append]
    refine ⟨byP_rises O R n k, ?_, ?_⟩
    · have h : (List.range n).Pairwise (· < ·) := List.pairwise_lt_range
      refine List.Pairwise.map _ (fun a b (hab : a < b ∧ wayN O R a = wayN O R b) => ?_) (R := fun a b => a < b ∧ wayN O R a = wayN O R b) ?_
      · rw [ltW_iff]; right; simp only; omega
      · have h2 := h.filter (fun v => wayN O R v == 4000 - (k : Int))
        refine h2.imp_of_mem fun {a b} ha hb hab => ⟨hab, ?_⟩
        have e1 : wayN O R a = 4000 - k := by simpa using (List.mem_filter.1 ha).2
        have e2 : wayN O R b = 4000 - k := by simpa using (List.mem_filter.1 hb).2
        omega
    · intro a ha b hb
      obtain ⟨v, _, rfl, _, h1⟩ := byP_mem.1 ha
      obtain ⟨u, hu, rfl⟩ := List.mem_map.1 hb
      have e : wayN O R u = 4000 - k := by simpa using (List.mem_filter.1 hu).2
      rw [ltW_iff]; left; simp only; omega
/-- what rises and holds all places is what the document says -/
theorem by_uniq {O R : List Int} {n : Nat} (hw : ∀ v, v < n → 0 ≤ wayN O R v ∧ wayN O R v ≤ 4000) {out : List (Int × Int)} (h1 : Rises ltW out) (hp : out.Perm (waysP O R n)) : out = byP O R n 4001 := by
  refine rises_uniq stoW _ _ h1 (byP_rises O R n 4001) fun x => ?_
  rw [hp.mem_iff, waysP_mem, byP_mem]
  constructor
  · rintro ⟨v, h, rfl⟩
    have := hw v h
    exact ⟨v, h, rfl, by omega, by omega⟩
  · rintro ⟨v, h, rfl, _⟩; exact ⟨v, h, rfl⟩
end Go.Proofs.YtkekibnhmfmhmaaGreat
/- The program's heap of places (chapter 11): its methods. -/
namespace Go.Proofs.YtkekibnhmfmhmaaGreat
open Go Go.RowKit
end Go.Proofs.YtkekibnhmfmhmaaGreat
/- An own row is small. -/
namespace Go.Proofs.YtkekibnhmfmhmaaGreat
open Go Go.RowKit
theorem own_sm {w : World} {base : Nat} {e : TypeId} {size : Nat} {q : Option Addr} {n c : Nat} {xs : List Value} (h : w.ownsRow base e size (.slice q n c) n xs) : n ≤ 9223372036854775807 := by
  rcases h.2 with ⟨_, h2⟩ | ⟨g, cap, cur, h1, _, _, h3, h4, _⟩
  · omega
  · unfold maxLen at h4; omega
theorem Sep.rdx {w0 w : World} {Γ : List Pc} (S : Sep w0 w Γ) (i : Nat) {e : TypeId} {size : Nat} {q : Option Addr} {n c : Nat} {xs : List Value} (h : Γ[i]? = some (.own e size q n c xs)) : Rd w size q n xs := Rd.of_own (S.own i h) (own_sm (S.own i h))
end Go.Proofs.YtkekibnhmfmhmaaGreat
/- The program's heap of places (chapter 11): Push, Pop. -/
namespace Go.Proofs.YtkekibnhmfmhmaaGreat
open Go Go.RowKit
attribute [local go_sem] Oper.semAt_some
/-- the builtin append, by what it yields -/
theorem operwp_append {P : Program} {o : Oper} {a : Act} {w w' : World} {K : Act → World → Prop} {Q : Exit → Act → World → Prop} (s x : Operand) (t : TypeId) {vs vx v : Value}
    (ho : o.op = .call { callee := .builtin .append, args := #[s, x], argTypes := #[t, t] }) (hs : a.eval s = vs) (hx : a.eval x = vx) (hrun : (Builtin.append_ #[t, t] o.type #[vs, vx]).run P w = .ok v w') (h : K (a.put o.dst v) w') : o.wp P a w K Q := by
  unfold Oper.wp execOp
  simp only [ho, resolve, invoke, builtin, Sem.run_bind, Sem.run_pure, Result.andThen_ok, List.map_toArray, List.map_cons, List.map_nil, hs, hx, hrun]
  exact h
theorem two_set {p0 p1 : Pc} {Γ : List Pc} {j jb : Nat} (h : j ≠ jb) {a b : Pc} (hb : Γ[jb]? = some b) : ((p0 :: p1 :: Γ).set (j + 2) a)[jb + 2]? = some b := by
  rw [List.getElem?_set_ne (by omega)]; exact hb
theorem Sep.alrw {w0 w : World} {Γ : List Pc} (S : Sep w0 w Γ) (cs : Array Value) (e : TypeId) (size n g : Nat) (hg : w.heap.size = g) (hm : n ≤ maxLen) (hs : cs.size = n * size) : Sep w0 (w.alloc (.cells cs e)) (.own e size (some ⟨g, 0, none⟩) n n cs.toList :: Γ) := by
  subst hg
  exact S.fresh (Ext.alloc (Below.refl _ _) _) (World.ownsRow_lit w cs n (Nat.le_refl _) hm hs) (Nat.le_refl _)
theorem Sep.appended {w0 w : World} {Γ : List Pc} (S : Sep w0 w Γ) (j : Nat) (t ty e : TypeId) (i : TypeInfo) (z : Value) (size bytes : Nat) (ht : (Tryz.prog).underlying t = some (.slice e)) (hi : (Tryz.prog).info? e = some i) (hz : i.zero = some z)
    (hsize : i.size = size) (hby : i.bytes = bytes) (hzs : z.cells.size = size) (hsz : 0 < size)
    (q : Option Addr) (n cq : Nat) (xs : List Value) (hj : Γ[j]? = some (.own e size q n cq xs)) (A : Option Addr) (m c : Nat) (news : List Value) (hr : Rd w size A m news) (h1 : ∀ u ∈ news, u.oneCell' = true)
    (hbytes : (n + m) * bytes ≤ 140737488355328) (h63 : n + m ≤ 140737488355328) :
    ∃ q' c' w', (Builtin.append_ #[t, t] ty #[.slice q n cq, .slice A m c]).run Tryz.prog w = .ok (.slice q' (n + m) c') w' ∧ Sep w0 w' (Γ.set j (.own e size q' (n + m) c' (xs ++ news))) := by
  obtain ⟨q', c', w', hrun, ho', hg, hat, _⟩ := run_append_rd (P := Tryz.prog) w w0.heap.size t ty e i z size bytes ht hi hz hsize hby hzs hsz q n cq xs (S.own j hj) A m c news hr h1 hbytes h63 S.ext.size
  refine ⟨q', c', w', hrun, S.put j hj _ hg (fun k hk => hk) (own_base ho' (Nat.zero_le _)) fun k hk => ?_⟩
  rcases hat with h | h
  · exact .inl (h.symm.trans hk)
  · have : some w.heap.size = some k := h.symm.trans hk
    injection this with this
    exact .inr (by omega)
theorem Sep.cut {w0 w : World} {Γ : List Pc} (S : Sep w0 w Γ) (j : Nat) {e : TypeId} {size n c : Nat} {q : Option Addr} {xs ys : List Value} (k : Nat) (hj : Γ[j]? = some (.own e size q n c (xs ++ ys))) (hk : xs.length = k * size) (hkn : k ≤ n) : Sep w0 w (Γ.set j (.own e size q k c xs)) :=
  S.put j hj _ (row := none) (World.grownBy.refl _ _) (fun _ h => nomatch h) (own_base (own_take (S.own j hj) hk hkn) (Nat.zero_le _)) fun _ hk => .inl hk
end Go.Proofs.YtkekibnhmfmhmaaGreat
/- A row of the call's own, and what an elder slice of it reads: an append to the row leaves that as it was. -/
namespace Go.Proofs.YtkekibnhmfmhmaaGreat
open Go Go.RowKit
theorem run_append_keep {P : Program} (w : World) (base : Nat) (t ty e : TypeId) (i : TypeInfo) (z : Value) (size bytes : Nat) (ht : P.underlying t = some (.slice e)) (hi : P.info? e = some i) (hz : i.zero = some z)
    (hsize : i.size = size) (hby : i.bytes = bytes) (hzs : z.cells.size = size) (hsz : 0 < size)
    (q : Option Addr) (n cq : Nat) (xs : List Value) (hown : w.ownsRow base e size (.slice q n cq) n xs)
    (A : Option Addr) (m c : Nat) (news : List Value) (hr : Rd w size A m news) (h1 : ∀ u ∈ news, u.oneCell' = true)
    (hbytes : (n + m) * bytes ≤ 140737488355328) (h63 : n + m ≤ 140737488355328) (hbase : base ≤ w.heap.size) (hm : 0 < m) :
    ∃ q' c' w', (Builtin.append_ #[t, t] ty #[.slice q n cq, .slice A m c]).run P w = .ok (.slice q' (n + m) c') w' ∧ w'.ownsRow base e size (.slice q' (n + m) c') (n + m) (xs ++ news) ∧ w.grownBy w' (blkOf q) ∧
      (blkOf q' = blkOf q ∨ blkOf q' = some w.heap.size) ∧ Rd w' size q n xs := by
  obtain ⟨q', c', w', hrun, ho, hg, hat, _⟩ := run_append_rd (P := P) w base t ty e i z size bytes ht hi hz hsize hby hzs hsz q n cq xs hown A m c news hr h1 hbytes h63 hbase
  refine ⟨q', c', w', hrun, ho, hg, hat, ?_⟩
  by_cases hn0 : n = 0
  · subst hn0
    have hx : xs = [] := List.eq_nil_of_length_eq_zero (by have := hown.1; omega)
    subst hx
    exact Rd.nil _ _ _
  have hxl : xs.length = n * size := hown.1
  obtain ⟨g', hq', _⟩ := own_block ho (by omega)
  rcases hat with hat | hat
  · obtain ⟨g, hq, _⟩ := own_block hown hn0
    have : q' = q := by
      rw [hq', hq] at hat ⊢
      injection hat with hat
      have hat : g' = g := hat
      rw [hat]
    rw [← this]
    have h := (Rd.of_own ho (by omega)).take (k := n) (by omega)
    rwa [List.take_left' hxl] at h
  · have hnews : ∀ (ad : Addr), A = some ad → ∀ j u, news[j]? = some u → w.cell? (ad.add j) = some u := by
      intro ad hA j u hu
      have hj : j < news.length := by
        rcases Nat.lt_or_ge j news.length with h | h
        · exact h
        · rw [List.getElem?_eq_none h] at hu; cases hu
      have had : ad = adr A 0 := by have := hr.ptr.some (by omega); rw [hA] at this ⊢; injection this
      have := hr.cells j (by rw [← hr.len]; exact hj)
      rw [had, adr_add, Nat.zero_add, this, List.getD_eq_getElem?_getD, hu]; rfl
    obtain ⟨ad, hA⟩ : ∃ ad, A = some ad := by rw [hr.ptr.some (by omega)]; exact ⟨_, rfl⟩
    subst hA
    rcases hown.2 with ⟨h2, _⟩ | ⟨g, cap, cur, h2, hbg, hgh, hnc, hcm, hcs, htake⟩
    · injection h2 with h2 h3; exact absurd h3 hn0
    · injection h2 with h2 _ h4
      subst h2 h4
      have hglt : g < w.heap.size := by
        rcases Nat.lt_or_ge g w.heap.size with h | h
        · exact h
        · rw [Array.getElem?_eq_none h] at hgh; cases hgh
      by_cases hroom : n + m ≤ cq
      · have hfit : n * i.size + news.length ≤ cur.size := by rw [hr.len, hcs, hsize, ← Nat.add_mul]; exact Nat.mul_le_mul_right _ hroom
        have hr2 := run_append_room (P := P) w t ty e i ht hi g n cq cur hgh ad m c news (by rw [hsize]; exact hr.len) (hnews ad rfl) h1 hroom hfit
        rw [hr2] at hrun
        injection hrun with h5 _
        injection h5 with h5 _ _
        rw [← h5] at hat
        have hat : some g = some w.heap.size := hat
        injection hat with hat
        omega
      · have holds : ∀ j u, xs[j]? = some u → w.cell? ((⟨g, 0, none⟩ : Addr).add j) = some u := hown.cells (g := g) rfl
        have hr2 := run_append_grow (P := P) w t ty e i z ht hi hz ⟨g, 0, none⟩ n cq xs (by rw [hsize]; exact hxl) holds ad m c news (by rw [hsize]; exact hr.len) (hnews ad rfl) (by omega) (by omega) (growslice_fits (by omega) (by rw [hby]; exact hbytes))
        rw [hr2] at hrun
        injection hrun with _ h6
        rw [← h6]
        exact (Rd.of_own hown (by omega)).ext (Ext.alloc (Below.refl _ _).drew _)
/-- what an elder slice reads hangs on its block alone -/
theorem Rd.loc {w w' : World} {size n : Nat} {p : Option Addr} {xs : List Value} (h : Rd w size p n xs) (hk : ∀ k, blkOf p = some k → w'.heap[k]? = w.heap[k]?) : Rd w' size p n xs := by
  refine ⟨h.len, h.ptr, h.small, fun j hj => ?_⟩
  have h1 := h.cells j hj
  rcases h.ptr with h0 | ⟨b, o, rfl⟩
  · subst h0; omega
  · have h2 := hk b rfl
    rw [← h1]
    show w'.cell? ⟨b, o + j, none⟩ = w.cell? ⟨b, o + j, none⟩
    simp only [World.cell?, h2]
theorem Rd.blk_lt {w : World} {size n : Nat} {p : Option Addr} {xs : List Value} (h : Rd w size p n xs) (hs : 0 < n * size) {k : Nat} (hk : blkOf p = some k) : k < w.heap.size := by
  rcases h.ptr with h0 | ⟨b, o, rfl⟩
  · subst h0; omega
  · have h1 := h.cells 0 hs
    have h2 := World.block_lt_of_cell? w _ h1
    have h3 : b = k := by injection hk
    subst h3
    exact h2
/-- an own row, and what the elder slice p0 of n0 reads -/
def Pc.ownS (e : TypeId) (size : Nat) (q : Option Addr) (n c : Nat) (xs : List Value) (p0 : Option Addr) (n0 : Nat) (ys : List Value) : Pc :=
  ⟨fun k => blkOf q = some k ∨ (0 < n0 * size ∧ blkOf p0 = some k), fun w => w.ownsRow 0 e size (.slice q n c) n xs ∧ Rd w size p0 n0 ys,
   fun w h k hk => by
    rcases hk with hk | ⟨h0, hk⟩
    · exact (own_lt h.1 hk).2
    · exact h.2.blk_lt h0 hk,
   fun w w' h hk => by
    refine ⟨own_loc h.1 fun k hb => hk k (.inl hb), ?_⟩
    by_cases h0 : 0 < n0 * size
    · exact h.2.loc fun k hb => hk k (.inr ⟨h0, hb⟩)
    · have hn : ∀ j, j < n0 * size → False := fun j hj => by omega
      exact ⟨h.2.len, h.2.ptr, h.2.small, fun j hj => (hn j hj).elim⟩⟩
theorem Sep.ownS {w0 w : World} {Γ : List Pc} (S : Sep w0 w Γ) (j : Nat) {e : TypeId} {size : Nat} {q p0 : Option Addr} {n c n0 : Nat} {xs ys : List Value} (hj : Γ[j]? = some (.ownS e size q n c xs p0 n0 ys)) : w.ownsRow 0 e size (.slice q n c) n xs ∧ Rd w size p0 n0 ys := S.all _ (List.mem_of_getElem? hj)
/-- an append to such a row -/
theorem Sep.appendedS {w0 w : World} {Γ : List Pc} (S : Sep w0 w Γ) (j : Nat) (t ty e : TypeId) (i : TypeInfo) (z : Value) (size bytes : Nat) (ht : (Tryz.prog).underlying t = some (.slice e)) (hi : (Tryz.prog).info? e = some i) (hz : i.zero = some z)
    (hsize : i.size = size) (hby : i.bytes = bytes) (hzs : z.cells.size = size) (hsz : 0 < size)
    (q : Option Addr) (n cq : Nat) (xs : List Value) (hj : Γ[j]? = some (.ownS e size q n cq xs q n xs)) (A : Option Addr) (m c : Nat) (news : List Value) (hr : Rd w size A m news) (h1 : ∀ u ∈ news, u.oneCell' = true)
    (hbytes : (n + m) * bytes ≤ 140737488355328) (h63 : n + m ≤ 140737488355328) (hm : 0 < m) :
    ∃ q' c' w', (Builtin.append_ #[t, t] ty #[.slice q n cq, .slice A m c]).run Tryz.prog w = .ok (.slice q' (n + m) c') w' ∧ Sep w0 w' (Γ.set j (.ownS e size q' (n + m) c' (xs ++ news) q n xs)) := by
  obtain ⟨q', c', w', hrun, ho', hg, hat, hk⟩ := run_append_keep (P := Tryz.prog) w 0 t ty e i z size bytes ht hi hz hsize hby hzs hsz q n cq xs (S.ownS j hj).1 A m c news hr h1 hbytes h63 (Nat.zero_le _) hm
  refine ⟨q', c', w', hrun, S.put j hj _ hg (fun k hk => .inl hk) ⟨ho', hk⟩ fun k hk => ?_⟩
  rcases hk with hk | ⟨_, hk⟩
  · rcases hat with h | h
    · exact .inl (.inl (h.symm.trans hk))
    · have : some w.heap.size = some k := h.symm.trans hk
      injection this with this
      exact .inr (by omega)
  · exact .inl (.inl hk)
/-- pieces are weakened, each for itself -/
theorem Sep.weak {w0 w : World} {Γ Δ : List Pc} (S : Sep w0 w Γ) (hl : Δ.length = Γ.length) (h : ∀ (i : Nat) p q, Γ[i]? = some p → Δ[i]? = some q → p.holds w → q.holds w ∧ ∀ k, q.foot k → p.foot k) : Sep w0 w Δ := by
  have key : ∀ (i : Nat) (q : Pc), Δ[i]? = some q → ∃ p, Γ[i]? = some p ∧ p ∈ Γ ∧ q.holds w ∧ ∀ k, q.foot k → p.foot k := fun i q hq => by
    have hi := (List.getElem?_eq_some_iff.1 hq).1
    have hp : Γ[i]? = some Γ[i] := List.getElem?_eq_getElem (by omega)
    have hm : Γ[i] ∈ Γ := List.getElem_mem _
    exact ⟨_, hp, hm, h i _ q hp hq (S.all _ hm)⟩
  refine ⟨S.ext, fun q hq => ?_, fun q hq k hk => ?_, ?_⟩
  · obtain ⟨i, hi, rfl⟩ := List.mem_iff_getElem.1 hq
    obtain ⟨p, _, _, h1, _⟩ := key i _ (List.getElem?_eq_getElem hi)
    exact h1
  · obtain ⟨i, hi, rfl⟩ := List.mem_iff_getElem.1 hq
    obtain ⟨p, _, hm, _, h2⟩ := key i _ (List.getElem?_eq_getElem hi)
    exact S.new p hm k (h2 k hk)
  · rw [List.pairwise_iff_getElem]
    intro a b ha hb hab k hka hkb
    obtain ⟨p, hp, _, _, h2⟩ := key a _ (List.getElem?_eq_getElem ha)
    obtain ⟨p', hp', _, _, h2'⟩ := key b _ (List.getElem?_eq_getElem hb)
    exact S.apart_at hp hp' (by omega) (h2 k hka) (h2' k hkb)
end Go.Proofs.YtkekibnhmfmhmaaGreat
/- Chapter 18: meet. -/
namespace Go.Proofs.YtkekibnhmfmhmaaGreat
open Go Go.RowKit Go.Maps
/-- a map whose entries are known, a piece -/
def Pc.mapR (b : Nat) (es : Array MapEntry) (clock : Nat) : Pc :=
  ⟨fun i => i = b, fun w => w.heap[b]? = some (.map es clock), fun w h i hi => by subst hi; exact (Array.getElem?_eq_some_iff.1 h).1, fun _ _ h hi => (hi b rfl).trans h⟩
theorem Sep.head {w0 w : World} {Γ : List Pc} {p q : Pc} (S : Sep w0 w (p :: Γ)) (h : q.holds w) (hf : ∀ k, q.foot k → p.foot k) : Sep w0 w (q :: Γ) :=
  S.weak rfl fun i p' q' h1 h2 h3 => by
    cases i with
    | zero =>
      simp at h1 h2
      subst h1 h2
      exact ⟨h, hf⟩
    | succ i =>
      simp at h1 h2
      rw [h1] at h2
      injection h2 with h2
      subst h2
      exact ⟨h3, fun k hk => hk⟩
theorem on_step {g : Int → Option I6} {left : Int → Bool} {x u : Int} (h : ((g u).isSome && !(left u && u != x)) = true) : u = x ∨ ((g u).isSome && !left u) = true := by
  by_cases e : u = x
  · exact .inl e
  · have e2 : (u != x) = true := by simpa using e
    rw [e2, Bool.and_true] at h
    exact .inr h
theorem hbw {w0 w : World} {p : Pc} {Γ : List Pc} {b : Nat} {es : Array MapEntry} {clock : Nat} (S : Sep w0 w (p :: .mapR b es clock :: Γ)) : w.heap[b]? = some (.map es clock) := S.all (.mapR b es clock) (by simp)
theorem meetP_start (f g : Int → Option I6) : MeetP f g (fun v => (g v).isSome && !(g v).isSome) false 0 := ⟨fun _ => ⟨rfl, fun v _ _ h => (by cases hg : g v <;> simp [hg] at h)⟩, fun h => (by cases h)⟩
theorem least_bd {l : List Sq} {dir : Int} {f : Int → Option I6} (h : Least l dir f) (hb : ∀ x ∈ l, -1000000 ≤ x.d ∧ x.d ≤ 1000000) {v : Int} {d : I6} (hf : f v = some d) : -1000000 ≤ d.1 ∧ d.1 ≤ 1000000 := by
  obtain ⟨x, hx, _, _, h3⟩ := (h.2 v d hf).1
  rw [← h3]; exact hb x hx
set_option maxRecDepth 100000 in
set_option maxHeartbeats 4000000 in
theorem meetPG (p : Option Addr) (n c : Nat) (l : List Sq) (w : World) (hl : Rd w 4 p n (encQ l)) (hi : ∀ x ∈ l, I64 x.v ∧ I64 x.d) (hb : ∀ x ∈ l, -1000000 ≤ x.d ∧ x.d ≤ 1000000) (hn : n ≤ 1000000) :
    Calls Tryz.prog 48 #[.slice p n c] w fun e w' => ∃ b d, e = .returned (.agg #[.bool b, .int .i64 d, .slice none 0 0]) ∧ Ext w w' ∧ MeetA l b d := by
  have HLE := Lib.hid (fun dir W (h : Ext w W) => leastG p n c l dir W (hl.ext h) hi hn)
  have HBD := Lib.hid hb
  have S0 := Lib.hid (((Sep.start w).al #[.bool false, .int .i64 0, .slice none 0 0] 33 w.heap.size rfl).al #[.bool false, .int .i64 0, .slice none 0 0] 33 (w.heap.size + 1) (by simp))
  clear hl hi hb
  go_enter Tryz.func48, Tryz.ntmps48
  go_wp2_with (first
    | (at_range; go_must (refine wpList_range_sep rfl _ _ rfl Tryz.underlying3 Tryz.underlying86 rfl HB2.out HF2.out HS2.out HFN.out S2.out w2.heap.size rfl ?_; intro w3 since seen c0 cnt S' R hsz he; have S3 := Lib.hid S'; have HR := Lib.hid R; clear S' R he hsz))
    | (go_at_call 49; have _t := S1; go_must (refine (HLE.out _ _ S1.out.ext).mono ?_; rintro e w2 ⟨b2, m2, g, hm2, rfl, Z, hg⟩; have HG := Lib.hid hg; have S2' := S1.out.comp Z; obtain ⟨es, clock, hx1, hx2, hx3, hx4⟩ := (S2'.map 0 rfl).raw; have HB2 := Lib.hid hx1; have HF2 := Lib.hid hx2; have HS2 := Lib.hid hx3; have HFN := Lib.hid hx4; have S2 := Lib.hid (Sep.head (q := Pc.mapR b2 es clock) S2' hx1 fun k h => h); clear S2' Z hg hx1 hx2 hx3 hx4))
    | (go_at_call 49; go_must (refine (HLE.out _ _ S0.out.ext).mono ?_; rintro e w1 ⟨b1, m1, f, hm1, rfl, Z, hf⟩; have HF := Lib.hid hf; have S1 := Lib.hid (S0.out.comp Z); clear Z hf)))
  go_frame
  go_loopw [5, 6, 7, 8] (fun _ _ _ _ wr => ∃ bb dd since seen c0 cnt left, Sep w wr [.iter w2.heap.size b2 since seen c0, .mapR b2 es clock, .map Tryz.prog 3 EI6 b1 m1 f, .blk (w.heap.size + 1) 33 #[.bool bb, .int .i64 dd, .slice none 0 0], .blk w.heap.size 33 #[.bool false, .int .i64 0, .slice none 0 0]] ∧ Hid (Rng Tryz.prog 3 EI6 es clock since seen c0 m2 g left cnt) ∧ Hid (MeetP f g (fun v => (g v).isSome && !left v) bb dd)) (fun _ _ _ _ wr => wr.rangeLeft b2 w2.heap.size)
  case atStart => exact ⟨false, 0, since, seen, c0, cnt, _, S3.out, HR, meetP_start f g⟩
  case round =>
    clear S3 HR since seen c0 cnt
    obtain ⟨bb, dd, since, seen, c0, cnt, left, S, HR, HM⟩ := hrel
    have HBW : Hid (wr.heap[b2]? = some (.map es clock)) := S.all _ (List.mem_of_getElem? (show _ = some (Pc.mapR b2 es clock) from (rfl : _[1]? = _)))
    have SH := Lib.hid S; clear S
    go_wp2_with (at_next; go_must (refine wpList_next_sep rfl _ rfl Tryz.underlying3 rfl HBW.out SH.out 0 rfl HR.out ?_ ?_))
    · intro hall
      have HA : Hid (MeetA l bb dd) := meetP_end HF.out HG.out (fun v hv => by simp [hv, hall v]) HM.out
      clear hall
      have z3 := (SH.out.blk 3 rfl).lt
      have c30 : wr.cell? ⟨w.heap.size + 1, 0, none⟩ = some (.bool bb) := (SH.out.blk 3 rfl).cell 0
      have c31 : wr.cell? ⟨w.heap.size + 1, 1, none⟩ = some (.int .i64 dd) := (SH.out.blk 3 rfl).cell 1
      have c32 : wr.cell? ⟨w.heap.size + 1, 2, none⟩ = some (.slice none 0 0) := (SH.out.blk 3 rfl).cell 2
      have z4 := (SH.out.blk 4 rfl).lt
      have c40 : wr.cell? ⟨w.heap.size, 0, none⟩ = some (.bool false) := (SH.out.blk 4 rfl).cell 0
      have c41 : wr.cell? ⟨w.heap.size, 1, none⟩ = some (.int .i64 0) := (SH.out.blk 4 rfl).cell 1
      have c42 : wr.cell? ⟨w.heap.size, 2, none⟩ = some (.slice none 0 0) := (SH.out.blk 4 rfl).cell 2
      have r0 := (SH.out.blk 4 rfl).frozen 0
      have r1 := (SH.out.blk 4 rfl).frozen 1
      have r2 := (SH.out.blk 4 rfl).frozen 2
      have S9 := Lib.hid (((SH.out.set 4 rfl 0 (.bool bb)).set 4 rfl 1 (.int .i64 dd)).set 4 rfl 2 (.slice none 0 0))
      have d0 := (S9.out.blk 4 rfl).cell 0
      have d1 := (S9.out.blk 4 rfl).cell 1
      have d2 := (S9.out.blk 4 rfl).cell 2
      go_wp2
      exact bodyPost_ret (v := .agg #[.bool bb, .int .i64 dd, .slice none 0 0]) (by simp [results, Tryz.results48, go_sem, d0, d1, d2, Tryz.sizeOf33, Tryz.isAgg33]) rfl ⟨bb, dd, rfl, S9.out.ext, HA.out⟩
    · intro t w1 since' seen' c0' cnt' hx hl hfx S1 R1 hc hsz hb1 hg1 hen
      obtain ⟨x, vv⟩ := t
      obtain ⟨v, hvw⟩ := vv
      have hen2 : (Instr.entry (.pointer (some ⟨w2.heap.size, 0, none⟩))).run Tryz.prog w1 = .ok (.tuple #[.int .i64 x, .int .i64 v]) w1 := hen
      have hgx : g x = some ⟨v, hvw⟩ := hfx
      have hx' : I64 x := hx
      have hm1 : wr.rangeLeft b2 w2.heap.size = cnt := rng_left HBW.out (SH.out.iter 0 rfl) HR.out
      have hbv := least_bd HG.out HBD.out hgx
      have q1 : -1000000 ≤ v := hbv.1
      have q2 : v ≤ 1000000 := hbv.2
      have HON : Hid (∀ u, ((g u).isSome && !(left u && u != x)) = true → u = x ∨ ((g u).isSome && !left u) = true) := fun u h => on_step h
      have HGX := Lib.hid hgx
      have HM1 := Lib.hid hm1
      have HC := Lib.hid hc
      have z3 := (S1.blk 3 rfl).lt
      have c30 : w1.cell? ⟨w.heap.size + 1, 0, none⟩ = some (.bool bb) := (S1.blk 3 rfl).cell 0
      have c31 : w1.cell? ⟨w.heap.size + 1, 1, none⟩ = some (.int .i64 dd) := (S1.blk 3 rfl).cell 1
      have c32 : w1.cell? ⟨w.heap.size + 1, 2, none⟩ = some (.slice none 0 0) := (S1.blk 3 rfl).cell 2
      have r0 := (S1.blk 3 rfl).frozen 0
      have r1 := (S1.blk 3 rfl).frozen 1
      have r2 := (S1.blk 3 rfl).frozen 2
      have k1 := (S1.map 2 rfl).lookup_ok (t := 86) Tryz.underlying3 Tryz.underlying86 hx'
      have SH1 := Lib.hid S1; clear S1
      have HR1 := Lib.hid R1; clear R1
      clear hg1 hsz HBW hen hb1 hc hm1 hgx hfx hx hx' hl hbv
      cases hf : f x with
      | none =>
        have k2 : (Instr.lookup 86 (.map (some b1)) (.int .i64 x) true).run Tryz.prog w1 = .ok (.tuple #[.int .i64 0, .bool false]) w1 := by rw [hf] at k1; exact k1
        have HM2 : Hid (MeetP f g (fun u => (g u).isSome && !(left u && u != x)) bb dd) := meetP_skip HM.out HON.out hf
        clear k1 hf
        go_wp2
        go_roundw
        case rel => exact ⟨_, _, since', seen', c0', cnt', _, SH1.out, HR1.out, HM2.out⟩
        case measure => rw [HM1.out, rng_left (hbw SH1.out) (SH1.out.iter 0 rfl) HR1.out]; exact HC.out
      | some yy =>
        obtain ⟨y, hyw⟩ := yy
        have k2 : (Instr.lookup 86 (.map (some b1)) (.int .i64 x) true).run Tryz.prog w1 = .ok (.tuple #[.int .i64 y, .bool true]) w1 := by rw [hf] at k1; exact k1
        have hby := least_bd HF.out HBD.out hf
        have q3 : -1000000 ≤ y := hby.1
        have q4 : y ≤ 1000000 := hby.2
        have HFX := Lib.hid hf
        clear k1 hf hby
        cases bb with
        | false =>
          have HM2 : Hid (MeetP f g (fun u => (g u).isSome && !(left u && u != x)) true (v + y)) := meetP_put HM.out HON.out HFX.out HGX.out (fun h => by cases h)
          go_wp2
          have S5 := Lib.hid (((SH1.out.set 3 rfl 0 (.bool true)).set 3 rfl 1 (.int .i64 (v + y))).set 3 rfl 2 (.slice none 0 0))
          go_roundw
          case rel => exact ⟨true, v + y, since', seen', c0', cnt', _, S5.out, HR1.out, HM2.out⟩
          case measure => rw [HM1.out, rng_left (hbw S5.out) (S5.out.iter 0 rfl) HR1.out]; exact HC.out
        | true =>
          by_cases hd : v + y < dd
          · have HM2 : Hid (MeetP f g (fun u => (g u).isSome && !(left u && u != x)) true (v + y)) := meetP_put HM.out HON.out HFX.out HGX.out (fun _ => by show v + y ≤ dd; omega)
            have e1 : decide (v + y < dd) = true := by simpa using hd
            clear hd
            go_wp2
            have S5 := Lib.hid (((SH1.out.set 3 rfl 0 (.bool true)).set 3 rfl 1 (.int .i64 (v + y))).set 3 rfl 2 (.slice none 0 0))
            go_roundw
            case rel => exact ⟨true, v + y, since', seen', c0', cnt', _, S5.out, HR1.out, HM2.out⟩
            case measure => rw [HM1.out, rng_left (hbw S5.out) (S5.out.iter 0 rfl) HR1.out]; exact HC.out
          · have HM2 : Hid (MeetP f g (fun u => (g u).isSome && !(left u && u != x)) true dd) := meetP_keep HM.out HON.out HFX.out HGX.out (by show dd ≤ v + y; omega)
            have e1 : decide (v + y < dd) = false := by simpa using hd
            clear hd
            go_wp2
            go_roundw
            case rel => exact ⟨_, _, since', seen', c0', cnt', _, SH1.out, HR1.out, HM2.out⟩
            case measure => rw [HM1.out, rng_left (hbw SH1.out) (SH1.out.iter 0 rfl) HR1.out]; exact HC.out
end Go.Proofs.YtkekibnhmfmhmaaGreat
/- Chapter 18: what may be asked, what it starts with, how it goes on; in plain Lean. No program in sight. -/
namespace Go.Proofs.YtkekibnhmfmhmaaGreat
open Go Go.RowKit
def plcB (v n : Int) : Bool := decide (0 ≤ v) && decide (v < n)
theorem plcB_iff {v n : Int} : plcB v n = true ↔ 0 ≤ v ∧ v < n := by
  unfold plcB
  rw [Bool.and_eq_true, decide_eq_true_eq, decide_eq_true_eq]
theorem plcB_no {v n : Int} : plcB v n = false ↔ ¬ (0 ≤ v ∧ v < n) := by
  rw [← plcB_iff, Bool.not_eq_true]
def manyB (ws : List ByteArray) : Bool := decide (1 ≤ ws.length) && decide (ws.length ≤ 8) && ws.all wordB
def numB (rad most : Int) : Bool := decide (0 ≤ rad) && decide (rad ≤ 200) && decide (1 ≤ most) && decide (most ≤ 100)
/-- may a query be, of n places? -/
def okQ (k f t : Int) (ws : List ByteArray) (rad most n : Int) : Bool :=
  if k = 1 ∨ k = 2 then plcB f n && plcB t n else if k = 3 then plcB f n && manyB ws && numB rad most else false
def chkQ (k f t : Int) (ws : List ByteArray) (rad most n : Int) : Int := if okQ k f t ws rad most n = true then 0 else 180
theorem chkQ_yes {k f t rad most n : Int} {ws : List ByteArray} (h : okQ k f t ws rad most n = true) : chkQ k f t ws rad most n = 0 := by unfold chkQ; rw [if_pos h]
theorem chkQ_no {k f t rad most n : Int} {ws : List ByteArray} (h : okQ k f t ws rad most n = false) : chkQ k f t ws rad most n = 180 := by unfold chkQ; rw [h]; rfl
theorem chkQ_zero {k f t rad most n : Int} {ws : List ByteArray} : chkQ k f t ws rad most n = 0 ↔ okQ k f t ws rad most n = true := by
  unfold chkQ
  cases okQ k f t ws rad most n <;> simp
theorem okQ_12 {k f t rad most n : Int} {ws : List ByteArray} (h : k = 1 ∨ k = 2) : okQ k f t ws rad most n = (plcB f n && plcB t n) := by unfold okQ; rw [if_pos h]
theorem okQ_3 {f t rad most n : Int} {ws : List ByteArray} : okQ 3 f t ws rad most n = (plcB f n && manyB ws && numB rad most) := by unfold okQ; rw [if_neg (by omega), if_pos rfl]
theorem okQ_else {k f t rad most n : Int} {ws : List ByteArray} (h : ¬ (k = 1 ∨ k = 2)) (h3 : k ≠ 3) : okQ k f t ws rad most n = false := by unfold okQ; rw [if_neg h, if_neg h3]
/-- messages that a query starts with -/
def startQ (k f t s : Int) : List Sq := if k = 1 then [⟨s, 0, f, 0⟩, ⟨s, 1, t, 0⟩] else if k = 2 ∨ k = 3 then [⟨s, 0, f, 0⟩] else []
/-- the error of going on -/
def nxC (ck b : Bool) (x : Sq) : Int := if ck = false then 40 else if b = true ∧ (x.r = 0 ∨ x.r = 1) ∧ 0 ≤ x.d ∧ x.d ≤ 200 then 0 else 1
/-- messages that a query goes on with -/
def nxL (k rad : Int) (e : Int) (x : Sq) (L : List Int) : List Sq := if e = 0 ∧ ¬ (k = 3 ∧ rad ≤ x.d) then L.map (fun v => ⟨x.s, x.r, v, x.d + 1⟩) else []
theorem nxL_no {k rad e : Int} {x : Sq} {L : List Int} (h : e ≠ 0 ∨ (k = 3 ∧ rad ≤ x.d)) : nxL k rad e x L = [] := by
  unfold nxL
  rw [if_neg (fun h2 => h.elim (fun h3 => h3 h2.1) h2.2)]
theorem nxL_yes {k rad e : Int} {x : Sq} {L : List Int} (h : e = 0) (h2 : ¬ (k = 3 ∧ rad ≤ x.d)) : nxL k rad e x L = L.map (fun v => ⟨x.s, x.r, v, x.d + 1⟩) := by
  unfold nxL
  rw [if_pos ⟨h, h2⟩]
theorem nxC_40 {b : Bool} {x : Sq} : nxC false b x = 40 := rfl
theorem nxC_1 {b : Bool} {x : Sq} (h : ¬ (b = true ∧ (x.r = 0 ∨ x.r = 1) ∧ 0 ≤ x.d ∧ x.d ≤ 200)) : nxC true b x = 1 := by unfold nxC; rw [if_neg (by simp), if_neg h]
theorem nxC_0 {b : Bool} {x : Sq} (h : b = true ∧ (x.r = 0 ∨ x.r = 1) ∧ 0 ≤ x.d ∧ x.d ≤ 200) : nxC true b x = 0 := by unfold nxC; rw [if_neg (by simp), if_pos h]
/-- is there a message of a direction? -/
def hasD (M : List Sq) (r : Int) : Bool := M.any fun x => x.r == r
/-- does a query of the kind 2 find its place? -/
def atS (l : List Sq) (t : Int) : Bool := l.any fun x => x.r == 0 && x.v == t
theorem atS_iff {l : List Sq} {t : Int} : atS l t = true ↔ ∃ x ∈ l, x.r = 0 ∧ x.v = t := by
  unfold atS
  rw [List.any_eq_true]
  constructor
  · rintro ⟨x, h1, h2⟩; simp at h2; exact ⟨x, h1, h2⟩
  · rintro ⟨x, h1, h2, h3⟩; exact ⟨x, h1, by simp [h2, h3]⟩
/-- the hits of states whose places are among those of words -/
def hitS (l : List Sq) (P : List Int) : List (Int × Int) := (l.filter fun x => x.r == 0 && P.contains x.v).map fun x => (x.v, x.d)
theorem hitS_snoc (l : List Sq) (P : List Int) (x : Sq) : hitS (l ++ [x]) P = if (x.r == 0 && P.contains x.v) = true then hitS l P ++ [(x.v, x.d)] else hitS l P := by
  unfold hitS
  rw [List.filter_append, List.map_append]
  by_cases h : (x.r == 0 && P.contains x.v) = true
  · rw [if_pos h]; simp only [List.filter_cons, h, if_true, List.filter_nil]; rfl
  · rw [if_neg h]; simp only [List.filter_cons, h, List.filter_nil]; simp
theorem hitS_len (l : List Sq) (P : List Int) : (hitS l P).length ≤ l.length := by
  unfold hitS
  rw [List.length_map]
  exact List.length_filter_le _ _
theorem hitS_mem {l : List Sq} {P : List Int} {h : Int × Int} (hh : h ∈ hitS l P) : ∃ x ∈ l, x.r = 0 ∧ x.v = h.1 ∧ x.d = h.2 := by
  unfold hitS at hh
  obtain ⟨x, hx, rfl⟩ := List.mem_map.1 hh
  obtain ⟨h1, h2⟩ := List.mem_filter.1 hx
  simp only [Bool.and_eq_true, beq_iff_eq] at h2
  exact ⟨x, h1, h2.1, rfl, rfl⟩
end Go.Proofs.YtkekibnhmfmhmaaGreat
/- Chapter 18: may a query be (the program's Check). -/
namespace Go.Proofs.YtkekibnhmfmhmaaGreat
open Go Go.RowKit
theorem placeCl (g : Nat) (v n : Int) (w : World) (hB : Blk w g 3 #[.int .i64 n]) : Calls Tryz.prog 60 #[.int .i64 v, .pointer (some ⟨g, 0, none⟩)] w fun e w' => e = .returned (.bool (plcB v n)) ∧ w = w' := by
  have b0 : w.cell? ⟨g, 0, none⟩ = some (.int .i64 n) := hB.cell 0
  have bz := hB.lt
  clear hB
  by_cases h : 0 ≤ v
  · go_enter Tryz.func60, Tryz.ntmps60
    go_wp2
    go_ret
    exact ⟨ret_bool (by unfold plcB; simp [h]), rfl⟩
  · have e0 : decide (0 ≤ v) = false := by simpa using h
    go_enter Tryz.func60, Tryz.ntmps60
    go_wp2
    go_ret
    exact ⟨ret_bool (by unfold plcB; rw [e0]; rfl), rfl⟩
theorem oddCl (s : ByteArray) (w : World) (hs : s.size ≤ 140737488355328) : Calls Tryz.prog 61 #[.string s] w fun e w' => e = .returned (.bool (!wordB s)) ∧ w = w' := by
  go_enter Tryz.func61, Tryz.ntmps61
  go_wp2_with (go_at_call 62; refine (WordG _ _ hs).mono ?_; rintro e w' ⟨rfl, rfl⟩)
  go_ret
  exact ⟨rfl, rfl⟩
set_option maxHeartbeats 400000 in
/-- the first place of a text that is no word, or -1 -/
theorem IndexOdd (p : Option Addr) (n c : Nat) (l : List ByteArray) (w : World) (hl : Rd w 1 p n (encS l)) (hz : ∀ s ∈ l, s.size ≤ 1000000) :
    Calls Tryz.prog 91 #[.slice p n c, .func (.func 61) #[] #[]] w fun e w' => ∃ i : Int, e = .returned (.int .i64 i) ∧ decide (0 ≤ i) = l.any (fun s => !wordB s) ∧ w = w' := by
  have p1 := hl.ptr
  have n1 := hl.small
  have l1 := hl.nS
  have HL := Lib.hid hl; clear hl
  have L1 := Lib.hid l1; clear l1
  have HZ := Lib.hid hz; clear hz
  go_enter Tryz.func91, Tryz.ntmps91
  go_wp2
  go_loop [5, 8] (fun _ i => ∃ k : Nat, k ≤ n ∧ i = .int .i64 k ∧ (l.take k).any (fun s => !wordB s) = false) (fun _ i => n - (intOf i).toNat)
  case atStart => exact ⟨0, Nat.zero_le _, rfl, rfl⟩
  case round =>
    obtain ⟨k, hk, rfl, ha⟩ := hrel
    have HA := Lib.hid ha; clear ha
    by_cases hlt : k < n
    · have g1 := HL.out.cS hlt
      have hsz : (nth l k).size ≤ 140737488355328 := by
        have := HZ.out (nth l k) (by rw [nth_eq (by rw [← L1.out]; exact hlt)]; exact List.getElem_mem _)
        omega
      by_cases hw : (!wordB (nth l k)) = true
      · have HF := Lib.hid (any_true_at (fun s => !wordB s) l k (by rw [← L1.out]; exact hlt) hw)
        go_wp2_with (go_at_call 61; refine (oddCl _ _ hsz).mono ?_; rintro e w' ⟨rfl, rfl⟩)
        go_ret
        exact ⟨_, rfl, by rw [HF.out]; simp, rfl⟩
      · have hw' : (!wordB (nth l k)) = false := by simpa using hw
        have HW' := Lib.hid hw'
        clear hw
        go_wp2_with (go_at_call 61; refine (oddCl _ _ hsz).mono ?_; rintro e w' ⟨rfl, rfl⟩)
        go_round
        case rel => exact ⟨k + 1, by omega, by go_num, any_step _ _ _ (by rw [← L1.out]; exact hlt) HA.out HW'.out⟩
        case measure => simp [intOf]; omega
    · have HF := Lib.hid (any_end _ _ _ (by rw [← L1.out]; exact hlt) HA.out)
      go_wp2
      go_ret
      exact ⟨_, rfl, by rw [HF.out]; rfl, rfl⟩
theorem ContainsOdd (p : Option Addr) (n c : Nat) (l : List ByteArray) (w : World) (hl : Rd w 1 p n (encS l)) (hz : ∀ s ∈ l, s.size ≤ 1000000) :
    Calls Tryz.prog 63 #[.slice p n c, .func (.func 61) #[] #[]] w fun e w' => e = .returned (.bool (l.any (fun s => !wordB s))) ∧ w = w' := by
  have HC := Lib.hid (IndexOdd p n c l w hl hz)
  clear hl hz
  go_enter Tryz.func63, Tryz.ntmps63
  go_wp2_with (go_at_call 91; refine HC.out.mono ?_; rintro e w' ⟨i, rfl, hi, rfl⟩; have HI := Lib.hid hi; clear hi)
  go_ret
  exact ⟨ret_bool HI.out, rfl⟩
theorem all_any_not (ws : List ByteArray) : ws.all wordB = !ws.any (fun s => !wordB s) := by rw [List.all_eq_not_any_not]
theorem Blk.new2 (w : World) (t t2 : TypeId) (cs cs2 : Array Value) : Blk ((w.alloc (.cells cs t)).alloc (.cells cs2 t2)) (w.heap.size + 1) t2 cs2 := by
  have := Blk.new (w.alloc (.cells cs t)) t2 cs2
  rwa [World.size_alloc] at this
set_option maxRecDepth 100000 in
set_option maxHeartbeats 8000000 in
theorem CheckQ (k f t : Int) (pw : Option Addr) (nw cw : Nat) (ws : List ByteArray) (rad most : Int) (n : Int) (w : World) (hw : Rd w 1 pw nw (encS ws)) (hz : ∀ s ∈ ws, s.size ≤ 1000000) :
    Calls Tryz.prog 21 #[.agg #[.int .i64 k, .int .i64 f, .int .i64 t, .slice pw nw cw, .int .i64 rad, .int .i64 most], .int .i64 n] w fun e w' => e = .returned (.int .i64 (chkQ k f t ws rad most n)) ∧ Ext w w' := by
  have l1 := hw.nS
  have p1 := hw.ptr
  have n1 := hw.small
  have HE := Lib.hid (((Sep.start w).al #[.int .i64 k, .int .i64 f, .int .i64 t, .slice pw nw cw, .int .i64 rad, .int .i64 most] 24 w.heap.size rfl).al #[.int .i64 n] 3 (w.heap.size + 1) (by simp)).ext
  have HW := Lib.hid (hw.ext HE.out)
  have HB := Lib.hid (Blk.new2 w 24 3 #[.int .i64 k, .int .i64 f, .int .i64 t, .slice pw nw cw, .int .i64 rad, .int .i64 most] #[.int .i64 n])
  have HZ := Lib.hid hz
  have L1 := Lib.hid l1
  clear hz l1 hw
  by_cases h12 : k = 1 ∨ k = 2
  · have HO := Lib.hid (okQ_12 (f := f) (t := t) (ws := ws) (rad := rad) (most := most) (n := n) h12)
    cases h1 : plcB f n with
    | false =>
      have HF : Hid (chkQ k f t ws rad most n = 180) := chkQ_no (by rw [HO.out, h1]; rfl)
      have g3 : (k == 3) = false := by rw [beq_eq_false_iff_ne]; omega
      by_cases k1 : k = 1
      · subst k1
        clear h12
        go_enter Tryz.func21, Tryz.ntmps21
        go_wp2_with (first | (go_at_call 63; refine (ContainsOdd _ _ _ ws _ HW.out HZ.out).mono ?_; rintro e w' ⟨rfl, rfl⟩) | (go_at_call 60; refine (placeCl _ _ n _ HB.out).mono ?_; rintro e w' ⟨rfl, rfl⟩))
        go_ret
        exact ⟨by (rw [HF.out]; rfl), HE.out⟩
      · obtain rfl : k = 2 := by omega
        clear h12 k1
        go_enter Tryz.func21, Tryz.ntmps21
        go_wp2_with (first | (go_at_call 63; refine (ContainsOdd _ _ _ ws _ HW.out HZ.out).mono ?_; rintro e w' ⟨rfl, rfl⟩) | (go_at_call 60; refine (placeCl _ _ n _ HB.out).mono ?_; rintro e w' ⟨rfl, rfl⟩))
        go_ret
        exact ⟨by (rw [HF.out]; rfl), HE.out⟩
    | true =>
      cases h2 : plcB t n with
      | false =>
        have HF : Hid (chkQ k f t ws rad most n = 180) := chkQ_no (by rw [HO.out, h1, h2]; rfl)
        by_cases k1 : k = 1
        · subst k1
          clear h12
          go_enter Tryz.func21, Tryz.ntmps21
          go_wp2_with (first | (go_at_call 63; refine (ContainsOdd _ _ _ ws _ HW.out HZ.out).mono ?_; rintro e w' ⟨rfl, rfl⟩) | (go_at_call 60; refine (placeCl _ _ n _ HB.out).mono ?_; rintro e w' ⟨rfl, rfl⟩))
          go_ret
          exact ⟨by (rw [HF.out]; rfl), HE.out⟩
        · obtain rfl : k = 2 := by omega
          clear h12 k1
          go_enter Tryz.func21, Tryz.ntmps21
          go_wp2_with (first | (go_at_call 63; refine (ContainsOdd _ _ _ ws _ HW.out HZ.out).mono ?_; rintro e w' ⟨rfl, rfl⟩) | (go_at_call 60; refine (placeCl _ _ n _ HB.out).mono ?_; rintro e w' ⟨rfl, rfl⟩))
          go_ret
          exact ⟨by (rw [HF.out]; rfl), HE.out⟩
      | true =>
        have HF : Hid (chkQ k f t ws rad most n = 0) := chkQ_yes (by rw [HO.out, h1, h2]; rfl)
        by_cases k1 : k = 1
        · subst k1
          clear h12
          go_enter Tryz.func21, Tryz.ntmps21
          go_wp2_with (first | (go_at_call 63; refine (ContainsOdd _ _ _ ws _ HW.out HZ.out).mono ?_; rintro e w' ⟨rfl, rfl⟩) | (go_at_call 60; refine (placeCl _ _ n _ HB.out).mono ?_; rintro e w' ⟨rfl, rfl⟩))
          go_ret
          exact ⟨by (rw [HF.out]; rfl), HE.out⟩
        · obtain rfl : k = 2 := by omega
          clear h12 k1
          go_enter Tryz.func21, Tryz.ntmps21
          go_wp2_with (first | (go_at_call 63; refine (ContainsOdd _ _ _ ws _ HW.out HZ.out).mono ?_; rintro e w' ⟨rfl, rfl⟩) | (go_at_call 60; refine (placeCl _ _ n _ HB.out).mono ?_; rintro e w' ⟨rfl, rfl⟩))
          go_ret
          exact ⟨by (rw [HF.out]; rfl), HE.out⟩
  · have g1 : (k == 1) = false := by rw [beq_eq_false_iff_ne]; omega
    have g2 : (k == 2) = false := by rw [beq_eq_false_iff_ne]; omega
    by_cases h3 : k = 3
    · subst h3
      have HO := Lib.hid (okQ_3 (f := f) (t := t) (ws := ws) (rad := rad) (most := most) (n := n))
      clear h12
      by_cases c1 : 1 ≤ nw
      · by_cases c2 : nw ≤ 8
        · cases hw : ws.any (fun s => !wordB s) with
          | true =>
            have HM : manyB ws = false := by unfold manyB; rw [all_any_not, hw]; simp
            have HF : Hid (chkQ 3 f t ws rad most n = 180) := chkQ_no (by rw [HO.out, HM]; simp)
            clear HM
            rcases Bool.eq_false_or_eq_true (plcB f n) with h1 | h1 <;> (go_enter Tryz.func21, Tryz.ntmps21; go_wp2_with (first | (go_at_call 63; refine (ContainsOdd _ _ _ ws _ HW.out HZ.out).mono ?_; rintro e w' ⟨rfl, rfl⟩) | (go_at_call 60; refine (placeCl _ _ n _ HB.out).mono ?_; rintro e w' ⟨rfl, rfl⟩)); go_ret; exact ⟨by (rw [HF.out]; rfl), HE.out⟩)
          | false =>
            have HM : manyB ws = true := by unfold manyB; rw [all_any_not, hw, ← L1.out]; simp [c1, c2]
            rw [HM, Bool.and_true] at HO
            clear HM
            cases h1 : plcB f n with
            | false =>
              have HF : Hid (chkQ 3 f t ws rad most n = 180) := chkQ_no (by rw [HO.out, h1]; simp)
              (go_enter Tryz.func21, Tryz.ntmps21; go_wp2_with (first | (go_at_call 63; refine (ContainsOdd _ _ _ ws _ HW.out HZ.out).mono ?_; rintro e w' ⟨rfl, rfl⟩) | (go_at_call 60; refine (placeCl _ _ n _ HB.out).mono ?_; rintro e w' ⟨rfl, rfl⟩)); go_ret; exact ⟨by (rw [HF.out]; rfl), HE.out⟩)
            | true =>
              rw [h1, Bool.true_and] at HO
              by_cases r1 : 0 ≤ rad
              · by_cases r2 : rad ≤ 200
                · by_cases m1 : 1 ≤ most
                  · by_cases m2 : most ≤ 100
                    · have HF : Hid (chkQ 3 f t ws rad most n = 0) := chkQ_yes (by rw [HO.out]; unfold numB; simp [r1, r2, m1, m2])
                      (go_enter Tryz.func21, Tryz.ntmps21; go_wp2_with (first | (go_at_call 63; refine (ContainsOdd _ _ _ ws _ HW.out HZ.out).mono ?_; rintro e w' ⟨rfl, rfl⟩) | (go_at_call 60; refine (placeCl _ _ n _ HB.out).mono ?_; rintro e w' ⟨rfl, rfl⟩)); go_ret; exact ⟨by (rw [HF.out]; rfl), HE.out⟩)
                    · have e : decide (most ≤ 100) = false := by simpa using m2
                      have HF : Hid (chkQ 3 f t ws rad most n = 180) := chkQ_no (by rw [HO.out]; unfold numB; rw [e]; simp)
                      (go_enter Tryz.func21, Tryz.ntmps21; go_wp2_with (first | (go_at_call 63; refine (ContainsOdd _ _ _ ws _ HW.out HZ.out).mono ?_; rintro e w' ⟨rfl, rfl⟩) | (go_at_call 60; refine (placeCl _ _ n _ HB.out).mono ?_; rintro e w' ⟨rfl, rfl⟩)); go_ret; exact ⟨by (rw [HF.out]; rfl), HE.out⟩)
                  · have e : decide (1 ≤ most) = false := by simpa using m1
                    have HF : Hid (chkQ 3 f t ws rad most n = 180) := chkQ_no (by rw [HO.out]; unfold numB; rw [e]; simp)
                    (go_enter Tryz.func21, Tryz.ntmps21; go_wp2_with (first | (go_at_call 63; refine (ContainsOdd _ _ _ ws _ HW.out HZ.out).mono ?_; rintro e w' ⟨rfl, rfl⟩) | (go_at_call 60; refine (placeCl _ _ n _ HB.out).mono ?_; rintro e w' ⟨rfl, rfl⟩)); go_ret; exact ⟨by (rw [HF.out]; rfl), HE.out⟩)
                · have e : decide (rad ≤ 200) = false := by simpa using r2
                  have HF : Hid (chkQ 3 f t ws rad most n = 180) := chkQ_no (by rw [HO.out]; unfold numB; rw [e]; simp)
                  (go_enter Tryz.func21, Tryz.ntmps21; go_wp2_with (first | (go_at_call 63; refine (ContainsOdd _ _ _ ws _ HW.out HZ.out).mono ?_; rintro e w' ⟨rfl, rfl⟩) | (go_at_call 60; refine (placeCl _ _ n _ HB.out).mono ?_; rintro e w' ⟨rfl, rfl⟩)); go_ret; exact ⟨by (rw [HF.out]; rfl), HE.out⟩)
              · have e : decide (0 ≤ rad) = false := by simpa using r1
                have HF : Hid (chkQ 3 f t ws rad most n = 180) := chkQ_no (by rw [HO.out]; unfold numB; rw [e]; simp)
                (go_enter Tryz.func21, Tryz.ntmps21; go_wp2_with (first | (go_at_call 63; refine (ContainsOdd _ _ _ ws _ HW.out HZ.out).mono ?_; rintro e w' ⟨rfl, rfl⟩) | (go_at_call 60; refine (placeCl _ _ n _ HB.out).mono ?_; rintro e w' ⟨rfl, rfl⟩)); go_ret; exact ⟨by (rw [HF.out]; rfl), HE.out⟩)
        · have HM : manyB ws = false := by unfold manyB; rw [← L1.out]; simp [c2]
          have HF : Hid (chkQ 3 f t ws rad most n = 180) := chkQ_no (by rw [HO.out, HM]; simp)
          have e : decide ((nw:Int) ≤ 8) = false := by simp; omega
          have en : decide (nw ≤ 8) = false := by simpa using c2
          clear HM
          rcases Bool.eq_false_or_eq_true (plcB f n) with h1 | h1 <;> (go_enter Tryz.func21, Tryz.ntmps21; go_wp2_with (first | (go_at_call 63; refine (ContainsOdd _ _ _ ws _ HW.out HZ.out).mono ?_; rintro e w' ⟨rfl, rfl⟩) | (go_at_call 60; refine (placeCl _ _ n _ HB.out).mono ?_; rintro e w' ⟨rfl, rfl⟩)); go_ret; exact ⟨by (rw [HF.out]; rfl), HE.out⟩)
      · have HM : manyB ws = false := by unfold manyB; rw [← L1.out]; simp [c1]
        have HF : Hid (chkQ 3 f t ws rad most n = 180) := chkQ_no (by rw [HO.out, HM]; simp)
        have e : decide ((1:Int) ≤ (nw:Int)) = false := by simp; omega
        have en : decide (1 ≤ nw) = false := by simpa using c1
        clear HM
        rcases Bool.eq_false_or_eq_true (plcB f n) with h1 | h1 <;> (go_enter Tryz.func21, Tryz.ntmps21; go_wp2_with (first | (go_at_call 63; refine (ContainsOdd _ _ _ ws _ HW.out HZ.out).mono ?_; rintro e w' ⟨rfl, rfl⟩) | (go_at_call 60; refine (placeCl _ _ n _ HB.out).mono ?_; rintro e w' ⟨rfl, rfl⟩)); go_ret; exact ⟨by (rw [HF.out]; rfl), HE.out⟩)
    · have HF : Hid (chkQ k f t ws rad most n = 180) := chkQ_no (okQ_else h12 h3)
      have g3 : (k == 3) = false := by rw [beq_eq_false_iff_ne]; exact h3
      clear h12 h3
      go_enter Tryz.func21, Tryz.ntmps21
      go_wp2_with (first | (go_at_call 63; refine (ContainsOdd _ _ _ ws _ HW.out HZ.out).mono ?_; rintro e w' ⟨rfl, rfl⟩) | (go_at_call 60; refine (placeCl _ _ n _ HB.out).mono ?_; rintro e w' ⟨rfl, rfl⟩))
      go_ret
      exact ⟨by (rw [HF.out]; rfl), HE.out⟩
end Go.Proofs.YtkekibnhmfmhmaaGreat
/- Chapter 18: the messages that a query starts with (the program's Start). -/
namespace Go.Proofs.YtkekibnhmfmhmaaGreat
open Go Go.RowKit
theorem infMail : (Tryz.prog.info? 81).map (fun i => (i.zero, i.size, i.bytes)) = some (some (.agg #[.int .i64 0, .int .i64 0, .int .i64 0, .int .i64 0]), 4, 32) := by kernel_rfl
theorem one_encQ (l : List Sq) : ∀ u ∈ encQ l, u.oneCell' = true := by
  intro u hu
  simp only [encQ, List.mem_flatMap] at hu
  obtain ⟨x, _, hx⟩ := hu
  simp only [List.mem_cons, List.not_mem_nil, or_false] at hx
  rcases hx with rfl | rfl | rfl | rfl <;> rfl
theorem Rd.oneQ (w : World) (t : TypeId) (x : Sq) : Rd (w.alloc (.cells #[.int .i64 x.s, .int .i64 x.r, .int .i64 x.v, .int .i64 x.d] t)) 4 (some ⟨w.heap.size, 0, none⟩) 1 (encQ [x]) := Rd.new w t [.int .i64 x.s, .int .i64 x.r, .int .i64 x.v, .int .i64 x.d] 1 4 rfl (by omega)
set_option maxHeartbeats 1000000 in
theorem beginCl (gl gs : Nat) (q : Option Addr) (n c : Nat) (L : List Sq) (s r v : Int) (w w0 : World) (Γ : List Pc) (S : Sep w0 w (.own 81 4 q n c (encQ L) :: .blk gl 27 #[.slice q n c] :: .blk gs 3 #[.int .i64 s] :: Γ)) (hn : n ≤ 1000) :
    Calls Tryz.prog 66 #[.int .i64 r, .int .i64 v, .pointer (some ⟨gl, 0, none⟩), .pointer (some ⟨gs, 0, none⟩)] w fun e w' => e = .returned (.tuple #[]) ∧ ∃ q' c', Sep w0 w' (.own 81 4 q' (n + 1) c' (encQ (L ++ [⟨s, r, v, 0⟩])) :: .blk gl 27 #[.slice q' (n + 1) c'] :: .blk gs 3 #[.int .i64 s] :: Γ) := by
  obtain ⟨i0, hi0, hz0, hz1, hz2⟩ := info_parts infMail
  have b0 : w.cell? ⟨gl, 0, none⟩ = some (.slice q n c) := (S.blk 1 rfl).cell 0
  have bz := (S.blk 1 rfl).lt
  have e0 : w.cell? ⟨gs, 0, none⟩ = some (.int .i64 s) := (S.blk 2 rfl).cell 0
  have ez := (S.blk 2 rfl).lt
  have SH := Lib.hid S; clear S
  go_enter Tryz.func66, Tryz.ntmps66
  go_wp2_with (at_builtin; go_must (refine wpList_append_sep rfl _ _ _ rfl 81 i0 _ 4 32 Tryz.underlying27 hi0 hz0 hz1 hz2 rfl (by omega) (SH.out.junk _) 0 q n c _ rfl rfl _ 1 1 _ rfl (Rd.oneQ _ _ ⟨s, r, v, 0⟩) (one_encQ _) (by omega) (by omega) ?_; intro q' c' w1 S' hsz; have S1 := Lib.hid S'; have kf := (S'.blk 1 rfl).frozen 0; have kz := (S'.blk 1 rfl).lt; have k4 : w1.cell? ⟨gl, 0, none⟩ = some (.slice q n c) := (S'.blk 1 rfl).cell 0; clear S' hsz))
  go_end0
  exact ⟨rfl, q', c', by rw [encQ_append]; exact S1.out.set 1 rfl 0 (.slice q' (n + 1) c')⟩
set_option maxRecDepth 100000 in
set_option maxHeartbeats 4000000 in
theorem StartQ (k f t : Int) (pw : Option Addr) (nw cw : Nat) (rad most s : Int) (w : World) :
    Calls Tryz.prog 24 #[.agg #[.int .i64 k, .int .i64 f, .int .i64 t, .slice pw nw cw, .int .i64 rad, .int .i64 most], .int .i64 s] w fun e w' => ∃ q c, e = .returned (.slice q (startQ k f t s).length c) ∧ Sep w w' [.own 81 4 q (startQ k f t s).length c (encQ (startQ k f t s))] := by
  have S0 := Lib.hid (((((Sep.start w).al #[.int .i64 k, .int .i64 f, .int .i64 t, .slice pw nw cw, .int .i64 rad, .int .i64 most] 24 w.heap.size rfl).al #[.int .i64 s] 3 (w.heap.size + 1) (by simp)).al #[.slice none 0 0] 27 (w.heap.size + 2) (by simp)).nilrow 81 4)
  by_cases k1 : k = 1
  · subst k1
    have HQ : Hid (startQ 1 f t s = [⟨s, 0, f, 0⟩, ⟨s, 1, t, 0⟩]) := rfl
    rw [HQ.out]
    go_enter Tryz.func24, Tryz.ntmps24
    go_wp2_with (first | (go_at_call 66; have _t := S1; go_must (refine (beginCl _ _ q1 1 c1 _ s _ _ _ _ _ S1.out (by omega)).mono ?_; rintro e w2 ⟨rfl, q2, c2, T⟩; have S2 := Lib.hid T; clear b0 b2 bz lz l0; have b0 : w2.cell? ⟨w.heap.size, 1, none⟩ = some (.int .i64 f) := (T.blk 3 rfl).cell 1; have b2 : w2.cell? ⟨w.heap.size, 2, none⟩ = some (.int .i64 t) := (T.blk 3 rfl).cell 2; have bz := (T.blk 3 rfl).lt; have lz := (T.blk 1 rfl).lt; have l0 : w2.cell? ⟨w.heap.size + 2, 0, none⟩ = some (.slice q2 2 c2) := (T.blk 1 rfl).cell 0; clear T)) | (go_at_call 66; go_must (refine (beginCl _ _ none 0 0 [] s _ _ _ _ _ S0.out (by omega)).mono ?_; rintro e w1 ⟨rfl, q1, c1, T⟩; have S1 := Lib.hid T; have b0 : w1.cell? ⟨w.heap.size, 1, none⟩ = some (.int .i64 f) := (T.blk 3 rfl).cell 1; have b2 : w1.cell? ⟨w.heap.size, 2, none⟩ = some (.int .i64 t) := (T.blk 3 rfl).cell 2; have bz := (T.blk 3 rfl).lt; have lz := (T.blk 1 rfl).lt; have l0 : w1.cell? ⟨w.heap.size + 2, 0, none⟩ = some (.slice q1 1 c1) := (T.blk 1 rfl).cell 0; clear T)))
    go_ret
    exact ⟨q2, c2, rfl, S2.out.pick [0] (by decide) rfl⟩
  · by_cases k23 : k = 2 ∨ k = 3
    · have HQ : Hid (startQ k f t s = [⟨s, 0, f, 0⟩]) := by unfold Hid startQ; rw [if_neg k1, if_pos k23]
      rw [HQ.out]
      clear HQ k1
      by_cases k2 : k = 2
      · subst k2
        clear k23
        go_enter Tryz.func24, Tryz.ntmps24
        go_wp2_with (first | (go_at_call 66; go_must (refine (beginCl _ _ none 0 0 [] s _ _ _ _ _ S0.out (by omega)).mono ?_; rintro e w1 ⟨rfl, q1, c1, T⟩; have S1 := Lib.hid T; have b0 : w1.cell? ⟨w.heap.size, 1, none⟩ = some (.int .i64 f) := (T.blk 3 rfl).cell 1; have b2 : w1.cell? ⟨w.heap.size, 2, none⟩ = some (.int .i64 t) := (T.blk 3 rfl).cell 2; have bz := (T.blk 3 rfl).lt; have lz := (T.blk 1 rfl).lt; have l0 : w1.cell? ⟨w.heap.size + 2, 0, none⟩ = some (.slice q1 1 c1) := (T.blk 1 rfl).cell 0; clear T)))
        go_ret
        exact ⟨q1, c1, rfl, S1.out.pick [0] (by decide) rfl⟩
      · obtain rfl : k = 3 := by omega
        clear k23 k2
        go_enter Tryz.func24, Tryz.ntmps24
        go_wp2_with (first | (go_at_call 66; go_must (refine (beginCl _ _ none 0 0 [] s _ _ _ _ _ S0.out (by omega)).mono ?_; rintro e w1 ⟨rfl, q1, c1, T⟩; have S1 := Lib.hid T; have b0 : w1.cell? ⟨w.heap.size, 1, none⟩ = some (.int .i64 f) := (T.blk 3 rfl).cell 1; have b2 : w1.cell? ⟨w.heap.size, 2, none⟩ = some (.int .i64 t) := (T.blk 3 rfl).cell 2; have bz := (T.blk 3 rfl).lt; have lz := (T.blk 1 rfl).lt; have l0 : w1.cell? ⟨w.heap.size + 2, 0, none⟩ = some (.slice q1 1 c1) := (T.blk 1 rfl).cell 0; clear T)))
        go_ret
        exact ⟨q1, c1, rfl, S1.out.pick [0] (by decide) rfl⟩
    · have HQ : Hid (startQ k f t s = []) := by unfold Hid startQ; rw [if_neg k1, if_neg k23]
      rw [HQ.out]
      have g1 : (k == 1) = false := by rw [beq_eq_false_iff_ne]; omega
      have g2 : (k == 2) = false := by rw [beq_eq_false_iff_ne]; omega
      have g3 : (k == 3) = false := by rw [beq_eq_false_iff_ne]; omega
      clear HQ k1 k23
      go_enter Tryz.func24, Tryz.ntmps24
      go_wp2
      go_ret
      exact ⟨none, 0, rfl, S0.out.pick [0] (by decide) rfl⟩
end Go.Proofs.YtkekibnhmfmhmaaGreat
/- Chapter 18: is there a message of a direction (the program's Done, its closures). -/
namespace Go.Proofs.YtkekibnhmfmhmaaGreat
open Go Go.RowKit
theorem mailCl (g : Nat) (x : Sq) (r : Int) (w : World) (hB : Blk w g 3 #[.int .i64 r]) : Calls Tryz.prog 47 #[.agg #[.int .i64 x.s, .int .i64 x.r, .int .i64 x.v, .int .i64 x.d], .pointer (some ⟨g, 0, none⟩)] w fun e w' => e = .returned (.bool (x.r == r)) ∧ Ext w w' := by
  have b0 : w.cell? ⟨g, 0, none⟩ = some (.int .i64 r) := hB.cell 0
  have bz := hB.lt
  have HE := Lib.hid ((Sep.start w).al #[.int .i64 x.s, .int .i64 x.r, .int .i64 x.v, .int .i64 x.d] 81 w.heap.size rfl).ext
  clear hB
  go_enter Tryz.func47, Tryz.ntmps47
  go_wp2
  go_ret
  exact ⟨rfl, HE.out⟩
set_option maxHeartbeats 1000000 in
/-- the first message of a direction, or -1 -/
theorem IndexDir (p : Option Addr) (n c g : Nat) (l : List Sq) (r : Int) (w : World) (hl : Rd w 4 p n (encQ l)) (hB : Blk w g 3 #[.int .i64 r]) :
    Calls Tryz.prog 79 #[.slice p n c, .func (.func 47) #[] #[.pointer (some ⟨g, 0, none⟩)]] w fun e w' => ∃ i : Int, e = .returned (.int .i64 i) ∧ decide (0 ≤ i) = hasD l r ∧ Ext w w' := by
  have p1 := hl.ptr
  have n1 := hl.small
  have l1 := hl.nQ
  have HL := Lib.hid hl; clear hl
  have L1 := Lib.hid l1; clear l1
  have HB := Lib.hid hB; clear hB
  go_enter Tryz.func79, Tryz.ntmps79
  go_wp2
  go_loopw [5, 8] (fun _ i wr => ∃ k : Nat, k ≤ n ∧ i = .int .i64 k ∧ (l.take k).any (fun x => x.r == r) = false ∧ Ext w wr) (fun _ i _ => n - (intOf i).toNat)
  case atStart => exact ⟨0, Nat.zero_le _, rfl, rfl, Below.refl _ _⟩
  case round =>
    obtain ⟨k, hk, rfl, ha, hE⟩ := hrel
    have HA := Lib.hid ha; clear ha
    by_cases hlt : k < n
    · obtain ⟨g1, g2, g3, g4⟩ := (HL.out.ext hE).cQ hlt
      have HC := Lib.hid (fun x => mailCl g x r wr (HB.out.ext hE))
      have hkl : k < l.length := by rw [← L1.out]; exact hlt
      have HTA := Lib.hid (any_true_at (fun x : Sq => x.r == r) l k hkl)
      have HST := Lib.hid (any_step (fun x : Sq => x.r == r) l k hkl HA.out)
      have d1 : (0:Int) ≤ k := by omega
      have d2 : (k:Int) < n := by omega
      have HE := Lib.hid hE; clear hE
      clear hkl
      generalize nth l k = x at *
      by_cases hw : x.r = r
      · have e1 : (x.r == r) = true := by simpa using hw
        have HF := Lib.hid (HTA.out e1)
        have HC2 := HC.out x
        rw [e1] at HC2
        have HC3 := Lib.hid HC2
        clear HST HTA HC2 e1 hw
        go_wp2_with (go_at_call 47; go_must (refine HC3.out.mono ?_; rintro e w' ⟨rfl, hb⟩; have HX := Lib.hid (Ext.trans HE.out hb); clear hb))
        go_ret
        exact ⟨_, rfl, by unfold hasD; rw [HF.out]; simp, HX.out⟩
      · have e1 : (x.r == r) = false := by simpa using hw
        have HF := Lib.hid (HST.out e1)
        have HC2 := HC.out x
        rw [e1] at HC2
        have HC3 := Lib.hid HC2
        clear HST HTA HC2 e1 hw
        go_wp2_with (go_at_call 47; go_must (refine HC3.out.mono ?_; rintro e w' ⟨rfl, hb⟩; have HX := Lib.hid (Ext.trans HE.out hb); clear hb))
        go_roundw
        case rel => exact ⟨k + 1, by omega, by go_num, HF.out, HX.out⟩
        case measure => simp [intOf]; omega
    · have HF := Lib.hid (any_end _ _ _ (by rw [← L1.out]; exact hlt) HA.out)
      have HE := Lib.hid hE; clear hE
      go_wp2
      go_ret
      exact ⟨_, rfl, by unfold hasD; rw [HF.out]; rfl, HE.out⟩
theorem ContainsDir (p : Option Addr) (n c g : Nat) (l : List Sq) (r : Int) (w : World) (hl : Rd w 4 p n (encQ l)) (hB : Blk w g 3 #[.int .i64 r]) :
    Calls Tryz.prog 46 #[.slice p n c, .func (.func 47) #[] #[.pointer (some ⟨g, 0, none⟩)]] w fun e w' => e = .returned (.bool (hasD l r)) ∧ Ext w w' := by
  have HC := Lib.hid (IndexDir p n c g l r w hl hB)
  clear hl hB
  go_enter Tryz.func46, Tryz.ntmps46
  go_wp2_with (go_at_call 79; refine HC.out.mono ?_; rintro e w' ⟨i, rfl, hi, hb⟩; have HI := Lib.hid hi; have HX := Lib.hid hb; clear hi hb)
  go_ret
  exact ⟨ret_bool HI.out, HX.out⟩
/-- is there a message of a direction: the closure -/
theorem ofCl (gm : Nat) (p : Option Addr) (n c : Nat) (l : List Sq) (r : Int) (w : World) (hl : Rd w 4 p n (encQ l)) (hM : Blk w gm 27 #[.slice p n c]) :
    Calls Tryz.prog 45 #[.int .i64 r, .pointer (some ⟨gm, 0, none⟩)] w fun e w' => e = .returned (.bool (hasD l r)) ∧ Ext w w' := by
  have b0 : w.cell? ⟨gm, 0, none⟩ = some (.slice p n c) := hM.cell 0
  have bz := hM.lt
  have S0 := Lib.hid ((Sep.start w).al #[.int .i64 r] 3 w.heap.size rfl)
  have HC := Lib.hid (ContainsDir p n c w.heap.size l r _ (hl.ext S0.out.ext) (S0.out.blk 0 rfl))
  clear hl hM
  go_enter Tryz.func45, Tryz.ntmps45
  go_wp2_with (go_at_call 46; refine HC.out.mono ?_; rintro e w' ⟨rfl, hb⟩; have HX := Lib.hid (Ext.trans S0.out.ext hb); clear hb)
  go_ret
  exact ⟨rfl, HX.out⟩
end Go.Proofs.YtkekibnhmfmhmaaGreat
/- Chapter 18: is a query of the kind 1 done (the program's Done). -/
namespace Go.Proofs.YtkekibnhmfmhmaaGreat
open Go Go.RowKit
theorem noPanic_q {Q : Exit → Act → World → Prop} (d : Option Nat) (v : Value) : ∀ (c : List PanicEntry) (a : Act) (w : World), NoPanic Q (.panic c) (a.put d v) w → NoPanic Q (.panic c) a w := fun _ _ _ h => h.elim
theorem noPanic_mk {Q : Exit → Act → World → Prop} {a : Act} {w : World} (h : Q .normal a w) : NoPanic Q .normal a w := h
set_option maxRecDepth 100000 in
set_option maxHeartbeats 4000000 in
theorem Done1 (f t : Int) (pw : Option Addr) (nw cw : Nat) (rad most : Int) (pl : Option Addr) (nl cl : Nat) (p : Option Addr) (n c : Nat) (l : List Sq) (pm : Option Addr) (nm cm : Nat) (M : List Sq) (w : World) (hl : Rd w 4 p n (encQ l)) (hM : Rd w 4 pm nm (encQ M)) (hi : ∀ x ∈ l, I64 x.v ∧ I64 x.d) (hb : ∀ x ∈ l, -1000000 ≤ x.d ∧ x.d ≤ 1000000) (hn : n ≤ 1000000) :
    Calls Tryz.prog 13 #[.agg #[.int .i64 1, .int .i64 f, .int .i64 t, .slice pw nw cw, .int .i64 rad, .int .i64 most], .slice pl nl cl, .slice p n c, .slice pm nm cm] w fun e w' => ∃ b d, e = .returned (.tuple #[.agg #[.bool b, .int .i64 d, .slice none 0 0], .bool (b || !hasD M 0 || !hasD M 1)]) ∧ Ext w w' ∧ MeetA l b d := by
  have S0 := Lib.hid ((((Sep.start w).al #[.int .i64 1, .int .i64 f, .int .i64 t, .slice pw nw cw, .int .i64 rad, .int .i64 most] 24 w.heap.size rfl).al #[.slice pm nm cm] 27 (w.heap.size + 1) (by simp)).al #[.bool false, .int .i64 0, .slice none 0 0] 33 (w.heap.size + 1 + 1) (by simp))
  have HME := Lib.hid (fun W (h : Ext w W) => meetPG p n c l W (hl.ext h) hi hb hn)
  have HMR := Lib.hid hM
  clear hl hM hi hb
  go_enter Tryz.func13, Tryz.ntmps13
  go_wp2_with (go_at_call 48; go_must (refine (HME.out _ S0.out.ext).mono ?_; rintro e w1 ⟨b, d, rfl, hE, hA⟩; have HA := Lib.hid hA; have S1 := Lib.hid (S0.out.call hE); clear hE hA))
  obtain ⟨X, hX⟩ : ∃ X, X = w1.alloc (.cells #[.bool b, .int .i64 d, .slice none 0 0] 33) := ⟨_, rfl⟩
  have S4 := Lib.hid (hX ▸ S1.out.al #[.bool b, .int .i64 d, .slice none 0 0] 33 w1.heap.size rfl : Sep w X _)
  rw [← hX]
  clear hX
  have b0 : X.cell? ⟨w1.heap.size, 0, none⟩ = some (.bool b) := (S4.out.blk 0 rfl).cell 0
  have b1 : X.cell? ⟨w1.heap.size, 1, none⟩ = some (.int .i64 d) := (S4.out.blk 0 rfl).cell 1
  have b2 : X.cell? ⟨w1.heap.size, 2, none⟩ = some (.slice none 0 0) := (S4.out.blk 0 rfl).cell 2
  have bz := (S4.out.blk 0 rfl).lt
  have hne : w1.heap.size ≠ w.heap.size + 1 + 1 := by have := (S1.out.blk 0 rfl).lt; omega
  have HOF := Lib.hid (fun r W (h : Ext w W) (hB : Blk W (w.heap.size + 1) 27 #[.slice pm nm cm]) => ofCl (w.heap.size + 1) pm nm cm M r W (HMR.out.ext h) hB)
  cases b with
  | true =>
    have HD : Hid ((true || !hasD M 0 || !hasD M 1) = true) := rfl
    refine wp_region_noPanic ?_
    refine wp_region_held_drew (S := fun w' => w'.cell? ⟨w1.heap.size, 0, none⟩ = some (.bool true) ∧ w'.cell? ⟨w1.heap.size, 1, none⟩ = some (.int .i64 d) ∧ w'.cell? ⟨w1.heap.size, 2, none⟩ = some (.slice none 0 0)) (by kernel_rfl) ⟨b0, b1, b2⟩ (fun hHeld => ?_)
    have SD := Lib.hid S4.out.drew
    clear b0 b1 b2 bz S4
    generalize X.drew = D at SD hHeld ⊢
    refine wpAnyH_take (i := 0) (v := .agg #[.bool true, .int .i64 d, .slice none 0 0]) rfl (by kernel_rfl) (by kernel_rfl) (by kernel_rfl) (noPanic_q _ _) (Or.inl ⟨by kernel_rfl, fun W hSw => by obtain ⟨h1, h2, h3⟩ := hSw; go_simp⟩) hHeld ?_
    refine wpAnyH_take (i := 1) (v := .pointer (some ⟨w1.heap.size, 0, none⟩)) rfl (by kernel_rfl) (by kernel_rfl) (by kernel_rfl) (noPanic_q _ _) (Or.inl ⟨by kernel_rfl, fun W hSw => by obtain ⟨h1, h2, h3⟩ := hSw; go_simp⟩) hHeld ?_
    refine wpAnyH_take (i := 2) (v := .bool true) rfl (by kernel_rfl) (by kernel_rfl) (by kernel_rfl) (noPanic_q _ _) (Or.inl ⟨by kernel_rfl, fun W hSw => by obtain ⟨h1, h2, h3⟩ := hSw; go_simp⟩) hHeld ?_
    refine wpAnyH_take (i := 3) (v := .bool true) rfl (by kernel_rfl) (by kernel_rfl) (by kernel_rfl) (noPanic_q _ _) (Or.inl ⟨by kernel_rfl, fun W hSw => by obtain ⟨h1, h2, h3⟩ := hSw; go_simp⟩) hHeld ?_

    refine wpAnyH_take (i := 4) (v := undef) rfl (by kernel_rfl) (by kernel_rfl) (by kernel_rfl) (noPanic_q _ _) (Or.inr ⟨by kernel_rfl, rfl⟩) hHeld ?_

    refine wpAnyH_take (i := 5) (v := undef) rfl (by kernel_rfl) (by kernel_rfl) (by kernel_rfl) (noPanic_q _ _) (Or.inr ⟨by kernel_rfl, rfl⟩) hHeld ?_
    refine wpAnyH_take (i := 6) (v := undef) rfl (by kernel_rfl) (by kernel_rfl) (by kernel_rfl) (noPanic_q _ _) (Or.inr ⟨by kernel_rfl, rfl⟩) hHeld ?_
    refine wpAnyH_take (i := 7) (v := .bool true) rfl (by kernel_rfl) (by kernel_rfl) (by kernel_rfl) (noPanic_q _ _) (Or.inl ⟨by kernel_rfl, fun W hSw => by obtain ⟨h1, h2, h3⟩ := hSw; go_simp⟩) hHeld ?_
    refine wpAnyH_take (i := 8) (v := .bool true) rfl (by kernel_rfl) (by kernel_rfl) (by kernel_rfl) (noPanic_q _ _) (Or.inl ⟨by kernel_rfl, fun W hSw => by obtain ⟨h1, h2, h3⟩ := hSw; go_simp⟩) hHeld ?_
    refine wpAnyH_take (i := 9) (v := undef) rfl (by kernel_rfl) (by kernel_rfl) (by kernel_rfl) (noPanic_q _ _) (Or.inr ⟨by kernel_rfl, rfl⟩) hHeld ?_
    refine wpAnyH_take (i := 10) (v := undef) rfl (by kernel_rfl) (by kernel_rfl) (by kernel_rfl) (noPanic_q _ _) (Or.inr ⟨by kernel_rfl, rfl⟩) hHeld ?_
    refine wpAnyH_take (i := 11) (v := undef) rfl (by kernel_rfl) (by kernel_rfl) (by kernel_rfl) (noPanic_q _ _) (Or.inr ⟨by kernel_rfl, rfl⟩) hHeld ?_
    refine wpAnyH_take (i := 12) (v := .bool true) rfl (by kernel_rfl) (by kernel_rfl) (by kernel_rfl) (noPanic_q _ _) (Or.inl ⟨by kernel_rfl, fun W hSw => by obtain ⟨h1, h2, h3⟩ := hSw; go_simp⟩) hHeld ?_

    have a0 := (SD.out.blk 1 rfl).cell 0
    have a1 := (SD.out.blk 1 rfl).cell 1
    have a2 := (SD.out.blk 1 rfl).cell 2
    have az := (SD.out.blk 1 rfl).lt
    have f0 := (SD.out.blk 1 rfl).frozen 0
    have f1 := (SD.out.blk 1 rfl).frozen 1
    have f2 := (SD.out.blk 1 rfl).frozen 2
    have S9 := Lib.hid (((SD.out.set 1 rfl 0 (.bool true)).set 1 rfl 1 (.int .i64 d)).set 1 rfl 2 (.slice none 0 0))
    refine wpAnyH_ready (rs := [13]) (by kernel_rfl) (by simp) (AllReadyH.cons rfl (fun K hK => ?_) AllReadyH.nil)
    go_simp
    have c0 := (S9.out.blk 0 rfl).cell 0
    have c1 := (S9.out.blk 0 rfl).cell 1
    have c2 := (S9.out.blk 0 rfl).cell 2
    refine hK.out _ _ ⟨c0, c1, c2⟩ (fun hHeld => ?_)
    clear hK
    refine wpAnyH_take (i := 14) (v := .bool true) rfl (by kernel_rfl) (by kernel_rfl) (by kernel_rfl) (noPanic_q _ _) (Or.inl ⟨by kernel_rfl, fun W hSw => by obtain ⟨h1, h2, h3⟩ := hSw; go_simp⟩) hHeld ?_
    refine wpAnyH_done (by kernel_rfl) ?_ _
    refine noPanic_mk ?_
    have x0 := (S9.out.blk 1 rfl).cell 0
    have x1 := (S9.out.blk 1 rfl).cell 1
    have x2 := (S9.out.blk 1 rfl).cell 2
    go_wp2
    exact bodyPost_ret (v := .tuple #[.agg #[.bool true, .int .i64 d, .slice none 0 0], .bool true]) (by simp [results, Tryz.results13, go_sem, x0, x1, x2, Tryz.sizeOf33, Tryz.isAgg33]) rfl ⟨true, d, by rw [HD.out], S9.out.ext, HA.out⟩
  | false =>

    cases h0 : hasD M 0 with
    | false =>
      have HD : Hid ((false || !hasD M 0 || !hasD M 1) = true) := by rw [h0]; rfl
      have HC0 := HOF.out 0
      rw [h0] at HC0
      have H0 := Lib.hid HC0
      clear HC0 h0 HOF
      refine wp_region_noPanic ?_
      refine wp_region_held_drew (S := fun w' => w'.cell? ⟨w1.heap.size, 0, none⟩ = some (.bool false) ∧ w'.cell? ⟨w1.heap.size, 1, none⟩ = some (.int .i64 d) ∧ w'.cell? ⟨w1.heap.size, 2, none⟩ = some (.slice none 0 0)) (by kernel_rfl) ⟨b0, b1, b2⟩ (fun hHeld => ?_)
      have SD := Lib.hid S4.out.drew
      clear b0 b1 b2 bz S4
      generalize X.drew = D at SD hHeld ⊢
      refine wpAnyH_take (i := 0) (v := .agg #[.bool false, .int .i64 d, .slice none 0 0]) rfl (by kernel_rfl) (by kernel_rfl) (by kernel_rfl) (noPanic_q _ _) (Or.inl ⟨by kernel_rfl, fun W hSw => by obtain ⟨h1, h2, h3⟩ := hSw; go_simp⟩) hHeld ?_
      refine wpAnyH_take (i := 1) (v := .pointer (some ⟨w1.heap.size, 0, none⟩)) rfl (by kernel_rfl) (by kernel_rfl) (by kernel_rfl) (noPanic_q _ _) (Or.inl ⟨by kernel_rfl, fun W hSw => by obtain ⟨h1, h2, h3⟩ := hSw; go_simp⟩) hHeld ?_
      refine wpAnyH_take (i := 2) (v := .bool false) rfl (by kernel_rfl) (by kernel_rfl) (by kernel_rfl) (noPanic_q _ _) (Or.inl ⟨by kernel_rfl, fun W hSw => by obtain ⟨h1, h2, h3⟩ := hSw; go_simp⟩) hHeld ?_
      refine wpAnyH_take (i := 3) (v := .bool false) rfl (by kernel_rfl) (by kernel_rfl) (by kernel_rfl) (noPanic_q _ _) (Or.inl ⟨by kernel_rfl, fun W hSw => by obtain ⟨h1, h2, h3⟩ := hSw; go_simp⟩) hHeld ?_
      refine wpAnyH_take (i := 4) (v := .func (.func 45) #[] #[.pointer (some ⟨w.heap.size + 1, 0, none⟩)]) rfl (by kernel_rfl) (by kernel_rfl) (by kernel_rfl) (noPanic_q _ _) (Or.inl ⟨by kernel_rfl, fun W hSw => by obtain ⟨h1, h2, h3⟩ := hSw; go_simp⟩) hHeld ?_
      refine wpAnyH_ready (rs := [5]) (by kernel_rfl) (by simp) (AllReadyH.cons rfl (fun K hK => ?_) AllReadyH.nil)
      go_simp
      refine (H0.out _ SD.out.ext (SD.out.blk 2 rfl)).mono ?_
      rintro e w5 ⟨rfl, hx⟩
      have S5 := Lib.hid (SD.out.call hx)
      clear hx
      have c0 := (S5.out.blk 0 rfl).cell 0
      have c1 := (S5.out.blk 0 rfl).cell 1
      have c2 := (S5.out.blk 0 rfl).cell 2
      refine hK.out _ _ ⟨c0, c1, c2⟩ (fun hHeld => ?_)
      clear hK c0 c1 c2
      refine wpAnyH_take (i := 6) (v := .bool true) rfl (by kernel_rfl) (by kernel_rfl) (by kernel_rfl) (noPanic_q _ _) (Or.inl ⟨by kernel_rfl, fun W hSw => by obtain ⟨h1, h2, h3⟩ := hSw; go_simp⟩) hHeld ?_
      refine wpAnyH_take (i := 7) (v := .bool true) rfl (by kernel_rfl) (by kernel_rfl) (by kernel_rfl) (noPanic_q _ _) (Or.inl ⟨by kernel_rfl, fun W hSw => by obtain ⟨h1, h2, h3⟩ := hSw; go_simp⟩) hHeld ?_
      refine wpAnyH_take (i := 8) (v := .bool true) rfl (by kernel_rfl) (by kernel_rfl) (by kernel_rfl) (noPanic_q _ _) (Or.inl ⟨by kernel_rfl, fun W hSw => by obtain ⟨h1, h2, h3⟩ := hSw; go_simp⟩) hHeld ?_
      refine wpAnyH_take (i := 9) (v := undef) rfl (by kernel_rfl) (by kernel_rfl) (by kernel_rfl) (noPanic_q _ _) (Or.inr ⟨by kernel_rfl, rfl⟩) hHeld ?_
      refine wpAnyH_take (i := 10) (v := undef) rfl (by kernel_rfl) (by kernel_rfl) (by kernel_rfl) (noPanic_q _ _) (Or.inr ⟨by kernel_rfl, rfl⟩) hHeld ?_
      refine wpAnyH_take (i := 11) (v := undef) rfl (by kernel_rfl) (by kernel_rfl) (by kernel_rfl) (noPanic_q _ _) (Or.inr ⟨by kernel_rfl, rfl⟩) hHeld ?_
      refine wpAnyH_take (i := 12) (v := .bool true) rfl (by kernel_rfl) (by kernel_rfl) (by kernel_rfl) (noPanic_q _ _) (Or.inl ⟨by kernel_rfl, fun W hSw => by obtain ⟨h1, h2, h3⟩ := hSw; go_simp⟩) hHeld ?_
      have a0 := (S5.out.blk 1 rfl).cell 0
      have a1 := (S5.out.blk 1 rfl).cell 1
      have a2 := (S5.out.blk 1 rfl).cell 2
      have az := (S5.out.blk 1 rfl).lt
      have f0 := (S5.out.blk 1 rfl).frozen 0
      have f1 := (S5.out.blk 1 rfl).frozen 1
      have f2 := (S5.out.blk 1 rfl).frozen 2
      have S9 := Lib.hid (((S5.out.set 1 rfl 0 (.bool false)).set 1 rfl 1 (.int .i64 d)).set 1 rfl 2 (.slice none 0 0))
      refine wpAnyH_ready (rs := [13]) (by kernel_rfl) (by simp) (AllReadyH.cons rfl (fun K hK => ?_) AllReadyH.nil)
      go_simp
      have c0 := (S9.out.blk 0 rfl).cell 0
      have c1 := (S9.out.blk 0 rfl).cell 1
      have c2 := (S9.out.blk 0 rfl).cell 2
      refine hK.out _ _ ⟨c0, c1, c2⟩ (fun hHeld => ?_)
      clear hK
      refine wpAnyH_take (i := 14) (v := .bool true) rfl (by kernel_rfl) (by kernel_rfl) (by kernel_rfl) (noPanic_q _ _) (Or.inl ⟨by kernel_rfl, fun W hSw => by obtain ⟨h1, h2, h3⟩ := hSw; go_simp⟩) hHeld ?_
      refine wpAnyH_done (by kernel_rfl) ?_ _
      refine noPanic_mk ?_
      have x0 := (S9.out.blk 1 rfl).cell 0
      have x1 := (S9.out.blk 1 rfl).cell 1
      have x2 := (S9.out.blk 1 rfl).cell 2
      go_wp2
      exact bodyPost_ret (v := .tuple #[.agg #[.bool false, .int .i64 d, .slice none 0 0], .bool true]) (by simp [results, Tryz.results13, go_sem, x0, x1, x2, Tryz.sizeOf33, Tryz.isAgg33]) rfl ⟨false, d, by rw [HD.out], S9.out.ext, HA.out⟩
    | true =>
      have HC0 := HOF.out 0
      rw [h0] at HC0
      have H0 := Lib.hid HC0
      clear HC0
      cases h1 : hasD M 1 with
      | false =>
        have HD : Hid ((false || !hasD M 0 || !hasD M 1) = true) := by unfold Hid; rw [h1]; simp
        have HC1 := HOF.out 1
        rw [h1] at HC1
        have H1 := Lib.hid HC1
        clear HC1 h0 h1 HOF
        refine wp_region_noPanic ?_
        refine wp_region_held_drew (S := fun w' => w'.cell? ⟨w1.heap.size, 0, none⟩ = some (.bool false) ∧ w'.cell? ⟨w1.heap.size, 1, none⟩ = some (.int .i64 d) ∧ w'.cell? ⟨w1.heap.size, 2, none⟩ = some (.slice none 0 0)) (by kernel_rfl) ⟨b0, b1, b2⟩ (fun hHeld => ?_)
        have SD := Lib.hid S4.out.drew
        clear b0 b1 b2 bz S4
        generalize X.drew = D at SD hHeld ⊢
        refine wpAnyH_take (i := 0) (v := .agg #[.bool false, .int .i64 d, .slice none 0 0]) rfl (by kernel_rfl) (by kernel_rfl) (by kernel_rfl) (noPanic_q _ _) (Or.inl ⟨by kernel_rfl, fun W hSw => by obtain ⟨h1, h2, h3⟩ := hSw; go_simp⟩) hHeld ?_
        refine wpAnyH_take (i := 1) (v := .pointer (some ⟨w1.heap.size, 0, none⟩)) rfl (by kernel_rfl) (by kernel_rfl) (by kernel_rfl) (noPanic_q _ _) (Or.inl ⟨by kernel_rfl, fun W hSw => by obtain ⟨h1, h2, h3⟩ := hSw; go_simp⟩) hHeld ?_
        refine wpAnyH_take (i := 2) (v := .bool false) rfl (by kernel_rfl) (by kernel_rfl) (by kernel_rfl) (noPanic_q _ _) (Or.inl ⟨by kernel_rfl, fun W hSw => by obtain ⟨h1, h2, h3⟩ := hSw; go_simp⟩) hHeld ?_
        refine wpAnyH_take (i := 3) (v := .bool false) rfl (by kernel_rfl) (by kernel_rfl) (by kernel_rfl) (noPanic_q _ _) (Or.inl ⟨by kernel_rfl, fun W hSw => by obtain ⟨h1, h2, h3⟩ := hSw; go_simp⟩) hHeld ?_
        refine wpAnyH_take (i := 4) (v := .func (.func 45) #[] #[.pointer (some ⟨w.heap.size + 1, 0, none⟩)]) rfl (by kernel_rfl) (by kernel_rfl) (by kernel_rfl) (noPanic_q _ _) (Or.inl ⟨by kernel_rfl, fun W hSw => by obtain ⟨h1, h2, h3⟩ := hSw; go_simp⟩) hHeld ?_
        refine wpAnyH_ready (rs := [5]) (by kernel_rfl) (by simp) (AllReadyH.cons rfl (fun K hK => ?_) AllReadyH.nil)
        go_simp
        refine (H0.out _ SD.out.ext (SD.out.blk 2 rfl)).mono ?_
        rintro e w5 ⟨rfl, hx⟩
        have S5 := Lib.hid (SD.out.call hx)
        clear hx
        have c0 := (S5.out.blk 0 rfl).cell 0
        have c1 := (S5.out.blk 0 rfl).cell 1
        have c2 := (S5.out.blk 0 rfl).cell 2
        refine hK.out _ _ ⟨c0, c1, c2⟩ (fun hHeld => ?_)
        clear hK c0 c1 c2
        refine wpAnyH_take (i := 6) (v := .bool false) rfl (by kernel_rfl) (by kernel_rfl) (by kernel_rfl) (noPanic_q _ _) (Or.inl ⟨by kernel_rfl, fun W hSw => by obtain ⟨h1, h2, h3⟩ := hSw; go_simp⟩) hHeld ?_
        refine wpAnyH_take (i := 7) (v := .bool false) rfl (by kernel_rfl) (by kernel_rfl) (by kernel_rfl) (noPanic_q _ _) (Or.inl ⟨by kernel_rfl, fun W hSw => by obtain ⟨h1, h2, h3⟩ := hSw; go_simp⟩) hHeld ?_
        refine wpAnyH_take (i := 8) (v := .bool false) rfl (by kernel_rfl) (by kernel_rfl) (by kernel_rfl) (noPanic_q _ _) (Or.inl ⟨by kernel_rfl, fun W hSw => by obtain ⟨h1, h2, h3⟩ := hSw; go_simp⟩) hHeld ?_
        refine wpAnyH_take (i := 9) (v := .func (.func 45) #[] #[.pointer (some ⟨w.heap.size + 1, 0, none⟩)]) rfl (by kernel_rfl) (by kernel_rfl) (by kernel_rfl) (noPanic_q _ _) (Or.inl ⟨by kernel_rfl, fun W hSw => by obtain ⟨h1, h2, h3⟩ := hSw; go_simp⟩) hHeld ?_
        refine wpAnyH_ready (rs := [10]) (by kernel_rfl) (by simp) (AllReadyH.cons rfl (fun K hK => ?_) AllReadyH.nil)
        go_simp
        refine (H1.out _ S5.out.ext (S5.out.blk 2 rfl)).mono ?_
        rintro e w6 ⟨rfl, hx⟩
        have S6 := Lib.hid (S5.out.call hx)
        clear hx
        have c0 := (S6.out.blk 0 rfl).cell 0
        have c1 := (S6.out.blk 0 rfl).cell 1
        have c2 := (S6.out.blk 0 rfl).cell 2
        refine hK.out _ _ ⟨c0, c1, c2⟩ (fun hHeld => ?_)
        clear hK c0 c1 c2
        refine wpAnyH_take (i := 11) (v := .bool true) rfl (by kernel_rfl) (by kernel_rfl) (by kernel_rfl) (noPanic_q _ _) (Or.inl ⟨by kernel_rfl, fun W hSw => by obtain ⟨h1, h2, h3⟩ := hSw; go_simp⟩) hHeld ?_
        refine wpAnyH_take (i := 12) (v := .bool true) rfl (by kernel_rfl) (by kernel_rfl) (by kernel_rfl) (noPanic_q _ _) (Or.inl ⟨by kernel_rfl, fun W hSw => by obtain ⟨h1, h2, h3⟩ := hSw; go_simp⟩) hHeld ?_
        have a0 := (S6.out.blk 1 rfl).cell 0
        have a1 := (S6.out.blk 1 rfl).cell 1
        have a2 := (S6.out.blk 1 rfl).cell 2
        have az := (S6.out.blk 1 rfl).lt
        have f0 := (S6.out.blk 1 rfl).frozen 0
        have f1 := (S6.out.blk 1 rfl).frozen 1
        have f2 := (S6.out.blk 1 rfl).frozen 2
        have S9 := Lib.hid (((S6.out.set 1 rfl 0 (.bool false)).set 1 rfl 1 (.int .i64 d)).set 1 rfl 2 (.slice none 0 0))
        refine wpAnyH_ready (rs := [13]) (by kernel_rfl) (by simp) (AllReadyH.cons rfl (fun K hK => ?_) AllReadyH.nil)
        go_simp
        have c0 := (S9.out.blk 0 rfl).cell 0
        have c1 := (S9.out.blk 0 rfl).cell 1
        have c2 := (S9.out.blk 0 rfl).cell 2
        refine hK.out _ _ ⟨c0, c1, c2⟩ (fun hHeld => ?_)
        clear hK
        refine wpAnyH_take (i := 14) (v := .bool true) rfl (by kernel_rfl) (by kernel_rfl) (by kernel_rfl) (noPanic_q _ _) (Or.inl ⟨by kernel_rfl, fun W hSw => by obtain ⟨h1, h2, h3⟩ := hSw; go_simp⟩) hHeld ?_
        refine wpAnyH_done (by kernel_rfl) ?_ _
        refine noPanic_mk ?_
        have x0 := (S9.out.blk 1 rfl).cell 0
        have x1 := (S9.out.blk 1 rfl).cell 1
        have x2 := (S9.out.blk 1 rfl).cell 2
        go_wp2
        exact bodyPost_ret (v := .tuple #[.agg #[.bool false, .int .i64 d, .slice none 0 0], .bool true]) (by simp [results, Tryz.results13, go_sem, x0, x1, x2, Tryz.sizeOf33, Tryz.isAgg33]) rfl ⟨false, d, by rw [HD.out], S9.out.ext, HA.out⟩
      | true =>
        have HD : Hid ((false || !hasD M 0 || !hasD M 1) = false) := by rw [h0, h1]; rfl
        have HC1 := HOF.out 1
        rw [h1] at HC1
        have H1 := Lib.hid HC1
        clear HC1 h0 h1 HOF
        refine wp_region_noPanic ?_
        refine wp_region_held_drew (S := fun w' => w'.cell? ⟨w1.heap.size, 0, none⟩ = some (.bool false) ∧ w'.cell? ⟨w1.heap.size, 1, none⟩ = some (.int .i64 d) ∧ w'.cell? ⟨w1.heap.size, 2, none⟩ = some (.slice none 0 0)) (by kernel_rfl) ⟨b0, b1, b2⟩ (fun hHeld => ?_)
        have SD := Lib.hid S4.out.drew
        clear b0 b1 b2 bz S4
        generalize X.drew = D at SD hHeld ⊢
        refine wpAnyH_take (i := 0) (v := .agg #[.bool false, .int .i64 d, .slice none 0 0]) rfl (by kernel_rfl) (by kernel_rfl) (by kernel_rfl) (noPanic_q _ _) (Or.inl ⟨by kernel_rfl, fun W hSw => by obtain ⟨h1, h2, h3⟩ := hSw; go_simp⟩) hHeld ?_
        refine wpAnyH_take (i := 1) (v := .pointer (some ⟨w1.heap.size, 0, none⟩)) rfl (by kernel_rfl) (by kernel_rfl) (by kernel_rfl) (noPanic_q _ _) (Or.inl ⟨by kernel_rfl, fun W hSw => by obtain ⟨h1, h2, h3⟩ := hSw; go_simp⟩) hHeld ?_
        refine wpAnyH_take (i := 2) (v := .bool false) rfl (by kernel_rfl) (by kernel_rfl) (by kernel_rfl) (noPanic_q _ _) (Or.inl ⟨by kernel_rfl, fun W hSw => by obtain ⟨h1, h2, h3⟩ := hSw; go_simp⟩) hHeld ?_
        refine wpAnyH_take (i := 3) (v := .bool false) rfl (by kernel_rfl) (by kernel_rfl) (by kernel_rfl) (noPanic_q _ _) (Or.inl ⟨by kernel_rfl, fun W hSw => by obtain ⟨h1, h2, h3⟩ := hSw; go_simp⟩) hHeld ?_
        refine wpAnyH_take (i := 4) (v := .func (.func 45) #[] #[.pointer (some ⟨w.heap.size + 1, 0, none⟩)]) rfl (by kernel_rfl) (by kernel_rfl) (by kernel_rfl) (noPanic_q _ _) (Or.inl ⟨by kernel_rfl, fun W hSw => by obtain ⟨h1, h2, h3⟩ := hSw; go_simp⟩) hHeld ?_
        refine wpAnyH_ready (rs := [5]) (by kernel_rfl) (by simp) (AllReadyH.cons rfl (fun K hK => ?_) AllReadyH.nil)
        go_simp
        refine (H0.out _ SD.out.ext (SD.out.blk 2 rfl)).mono ?_
        rintro e w5 ⟨rfl, hx⟩
        have S5 := Lib.hid (SD.out.call hx)
        clear hx
        have c0 := (S5.out.blk 0 rfl).cell 0
        have c1 := (S5.out.blk 0 rfl).cell 1
        have c2 := (S5.out.blk 0 rfl).cell 2
        refine hK.out _ _ ⟨c0, c1, c2⟩ (fun hHeld => ?_)
        clear hK c0 c1 c2
        refine wpAnyH_take (i := 6) (v := .bool false) rfl (by kernel_rfl) (by kernel_rfl) (by kernel_rfl) (noPanic_q _ _) (Or.inl ⟨by kernel_rfl, fun W hSw => by obtain ⟨h1, h2, h3⟩ := hSw; go_simp⟩) hHeld ?_
        refine wpAnyH_take (i := 7) (v := .bool false) rfl (by kernel_rfl) (by kernel_rfl) (by kernel_rfl) (noPanic_q _ _) (Or.inl ⟨by kernel_rfl, fun W hSw => by obtain ⟨h1, h2, h3⟩ := hSw; go_simp⟩) hHeld ?_
        refine wpAnyH_take (i := 8) (v := .bool false) rfl (by kernel_rfl) (by kernel_rfl) (by kernel_rfl) (noPanic_q _ _) (Or.inl ⟨by kernel_rfl, fun W hSw => by obtain ⟨h1, h2, h3⟩ := hSw; go_simp⟩) hHeld ?_
        refine wpAnyH_take (i := 9) (v := .func (.func 45) #[] #[.pointer (some ⟨w.heap.size + 1, 0, none⟩)]) rfl (by kernel_rfl) (by kernel_rfl) (by kernel_rfl) (noPanic_q _ _) (Or.inl ⟨by kernel_rfl, fun W hSw => by obtain ⟨h1, h2, h3⟩ := hSw; go_simp⟩) hHeld ?_
        refine wpAnyH_ready (rs := [10]) (by kernel_rfl) (by simp) (AllReadyH.cons rfl (fun K hK => ?_) AllReadyH.nil)
        go_simp
        refine (H1.out _ S5.out.ext (S5.out.blk 2 rfl)).mono ?_
        rintro e w6 ⟨rfl, hx⟩
        have S6 := Lib.hid (S5.out.call hx)
        clear hx
        have c0 := (S6.out.blk 0 rfl).cell 0
        have c1 := (S6.out.blk 0 rfl).cell 1
        have c2 := (S6.out.blk 0 rfl).cell 2
        refine hK.out _ _ ⟨c0, c1, c2⟩ (fun hHeld => ?_)
        clear hK c0 c1 c2
        refine wpAnyH_take (i := 11) (v := .bool false) rfl (by kernel_rfl) (by kernel_rfl) (by kernel_rfl) (noPanic_q _ _) (Or.inl ⟨by kernel_rfl, fun W hSw => by obtain ⟨h1, h2, h3⟩ := hSw; go_simp⟩) hHeld ?_
        refine wpAnyH_take (i := 12) (v := .bool false) rfl (by kernel_rfl) (by kernel_rfl) (by kernel_rfl) (noPanic_q _ _) (Or.inl ⟨by kernel_rfl, fun W hSw => by obtain ⟨h1, h2, h3⟩ := hSw; go_simp⟩) hHeld ?_
        have a0 := (S6.out.blk 1 rfl).cell 0
        have a1 := (S6.out.blk 1 rfl).cell 1
        have a2 := (S6.out.blk 1 rfl).cell 2
        have az := (S6.out.blk 1 rfl).lt
        have f0 := (S6.out.blk 1 rfl).frozen 0
        have f1 := (S6.out.blk 1 rfl).frozen 1
        have f2 := (S6.out.blk 1 rfl).frozen 2
        have S9 := Lib.hid (((S6.out.set 1 rfl 0 (.bool false)).set 1 rfl 1 (.int .i64 d)).set 1 rfl 2 (.slice none 0 0))
        refine wpAnyH_ready (rs := [13]) (by kernel_rfl) (by simp) (AllReadyH.cons rfl (fun K hK => ?_) AllReadyH.nil)
        go_simp
        have c0 := (S9.out.blk 0 rfl).cell 0
        have c1 := (S9.out.blk 0 rfl).cell 1
        have c2 := (S9.out.blk 0 rfl).cell 2
        refine hK.out _ _ ⟨c0, c1, c2⟩ (fun hHeld => ?_)
        clear hK
        refine wpAnyH_take (i := 14) (v := .bool false) rfl (by kernel_rfl) (by kernel_rfl) (by kernel_rfl) (noPanic_q _ _) (Or.inl ⟨by kernel_rfl, fun W hSw => by obtain ⟨h1, h2, h3⟩ := hSw; go_simp⟩) hHeld ?_
        refine wpAnyH_done (by kernel_rfl) ?_ _
        refine noPanic_mk ?_
        have x0 := (S9.out.blk 1 rfl).cell 0
        have x1 := (S9.out.blk 1 rfl).cell 1
        have x2 := (S9.out.blk 1 rfl).cell 2
        go_wp2
        exact bodyPost_ret (v := .tuple #[.agg #[.bool false, .int .i64 d, .slice none 0 0], .bool false]) (by simp [results, Tryz.results13, go_sem, x0, x1, x2, Tryz.sizeOf33, Tryz.isAgg33]) rfl ⟨false, d, by rw [HD.out], S9.out.ext, HA.out⟩
end Go.Proofs.YtkekibnhmfmhmaaGreat
/- Equal rows, equal edges, rows too big, a row that rises and has a number. -/
namespace Go.Proofs.YtkekibnhmfmhmaaGreat
open Go Go.RowKit Go.Shelf Go.Lib
attribute [local go_sem ↓] eqEdge neqEdge guardEdge
theorem IntsY (p q : Option Addr) (n m c d : Nat) (A : List Int) (w : World) (h1 : Rd w 1 p n (encI A)) (h2 : Rd w 1 q m (encI A)) : Calls Tryz.prog 38 #[.slice p n c, .slice q m d] w fun e w' => e = .returned (.bool true) ∧ Ext w w' :=
  (Ints01 p q n m c d A A w h1 h2).mono fun e w' ⟨h3, h4⟩ => ⟨by rw [h3]; simp, h4⟩
set_option maxRecDepth 100000 in
set_option maxHeartbeats 2000000 in
theorem Same04T (po : Option Addr) (no co : Nat) (O : List Int) (pt : Option Addr) (nt ct : Nat) (T : List Int) (pr : Option Addr) (nr cr : Nat) (R : List Int) (pv : Option Addr) (nv cv : Nat) (V : List Int) (po' : Option Addr) (no' co' : Nat) (pt' : Option Addr) (nt' ct' : Nat) (pr' : Option Addr) (nr' cr' : Nat) (pv' : Option Addr) (nv' cv' : Nat) (w : World) (hO : Rd w 1 po no (encI O)) (hT : Rd w 1 pt nt (encI T)) (hR : Rd w 1 pr nr (encI R)) (hV : Rd w 1 pv nv (encI V))
    (hO' : Rd w 1 po' no' (encI O)) (hT' : Rd w 1 pt' nt' (encI T)) (hR' : Rd w 1 pr' nr' (encI R)) (hV' : Rd w 1 pv' nv' (encI V)) :
    Calls Tryz.prog 26 #[.agg #[.slice po no co, .slice pt nt ct, .slice pr nr cr, .slice pv nv cv], .agg #[.slice po' no' co', .slice pt' nt' ct', .slice pr' nr' cr', .slice pv' nv' cv']] w fun e w' => e = .returned (.bool true) ∧ Ext w w' := by
  have H1 := Lib.hid (fun W1 (h : Ext w W1) => IntsY po po' no no' co co' O W1 (hO.ext h) (hO'.ext h))
  have H2 := Lib.hid (fun W1 (h : Ext w W1) => IntsY pt pt' nt nt' ct ct' T W1 (hT.ext h) (hT'.ext h))
  have H3 := Lib.hid (fun W1 (h : Ext w W1) => IntsY pr pr' nr nr' cr cr' R W1 (hR.ext h) (hR'.ext h))
  have H4 := Lib.hid (fun W1 (h : Ext w W1) => IntsY pv pv' nv nv' cv cv' V W1 (hV.ext h) (hV'.ext h))
  have S0 := Lib.hid (((Sep.start w).al #[.slice po no co, .slice pt nt ct, .slice pr nr cr, .slice pv nv cv] 41 w.heap.size rfl).al #[.slice po' no' co', .slice pt' nt' ct', .slice pr' nr' cr', .slice pv' nv' cv'] 41 (w.heap.size + 1) (by simp))
  clear hO hT hR hV hO' hT' hR' hV'
  go_enter Tryz.func26, Tryz.ntmps26
  go_wp2_with (first | (go_at_call 38; have _t := S3; go_must (refine (H4.out _ S3.out.ext).mono ?_; rintro e w4 ⟨rfl, hb⟩; have S4 := Lib.hid (S3.out.call hb); have w4a0 := (S4.out.blk 1 rfl).cell 0; have w4a1 := (S4.out.blk 1 rfl).cell 1; have w4a2 := (S4.out.blk 1 rfl).cell 2; have w4a3 := (S4.out.blk 1 rfl).cell 3; have w4az := (S4.out.blk 1 rfl).lt; have w4b0 := (S4.out.blk 0 rfl).cell 0; have w4b1 := (S4.out.blk 0 rfl).cell 1; have w4b2 := (S4.out.blk 0 rfl).cell 2; have w4b3 := (S4.out.blk 0 rfl).cell 3; have w4bz := (S4.out.blk 0 rfl).lt; clear hb)) | (go_at_call 38; have _t := S2; go_must (refine (H3.out _ S2.out.ext).mono ?_; rintro e w3 ⟨rfl, hb⟩; have S3 := Lib.hid (S2.out.call hb); have w3a0 := (S3.out.blk 1 rfl).cell 0; have w3a1 := (S3.out.blk 1 rfl).cell 1; have w3a2 := (S3.out.blk 1 rfl).cell 2; have w3a3 := (S3.out.blk 1 rfl).cell 3; have w3az := (S3.out.blk 1 rfl).lt; have w3b0 := (S3.out.blk 0 rfl).cell 0; have w3b1 := (S3.out.blk 0 rfl).cell 1; have w3b2 := (S3.out.blk 0 rfl).cell 2; have w3b3 := (S3.out.blk 0 rfl).cell 3; have w3bz := (S3.out.blk 0 rfl).lt; clear hb)) | (go_at_call 38; have _t := S1; go_must (refine (H2.out _ S1.out.ext).mono ?_; rintro e w2 ⟨rfl, hb⟩; have S2 := Lib.hid (S1.out.call hb); have w2a0 := (S2.out.blk 1 rfl).cell 0; have w2a1 := (S2.out.blk 1 rfl).cell 1; have w2a2 := (S2.out.blk 1 rfl).cell 2; have w2a3 := (S2.out.blk 1 rfl).cell 3; have w2az := (S2.out.blk 1 rfl).lt; have w2b0 := (S2.out.blk 0 rfl).cell 0; have w2b1 := (S2.out.blk 0 rfl).cell 1; have w2b2 := (S2.out.blk 0 rfl).cell 2; have w2b3 := (S2.out.blk 0 rfl).cell 3; have w2bz := (S2.out.blk 0 rfl).lt; clear hb)) | (go_at_call 38; have _t := S0; go_must (refine (H1.out _ S0.out.ext).mono ?_; rintro e w1 ⟨rfl, hb⟩; have S1 := Lib.hid (S0.out.call hb); have w1a0 := (S1.out.blk 1 rfl).cell 0; have w1a1 := (S1.out.blk 1 rfl).cell 1; have w1a2 := (S1.out.blk 1 rfl).cell 2; have w1a3 := (S1.out.blk 1 rfl).cell 3; have w1az := (S1.out.blk 1 rfl).lt; have w1b0 := (S1.out.blk 0 rfl).cell 0; have w1b1 := (S1.out.blk 0 rfl).cell 1; have w1b2 := (S1.out.blk 0 rfl).cell 2; have w1b3 := (S1.out.blk 0 rfl).cell 3; have w1bz := (S1.out.blk 0 rfl).lt; clear hb)))
  go_ret
  exact ⟨rfl, S4.out.ext⟩
/-- rows more than are looked at -/
def bigR (O T R V : List Int) : Bool := decide (30 < O.length) && decide (O.length ≤ 201) || decide (250 < O.length) || decide (250 < R.length) || decide (150 < T.length) && decide (T.length ≤ 2000) || decide (2100 < T.length) || decide (2100 < V.length)
set_option maxHeartbeats 2000000 in
theorem Big04 (po : Option Addr) (no co : Nat) (O : List Int) (pt : Option Addr) (nt ct : Nat) (T : List Int) (pr : Option Addr) (nr cr : Nat) (R : List Int) (pv : Option Addr) (nv cv : Nat) (V : List Int) (w : World) (hO : Rd w 1 po no (encI O)) (hT : Rd w 1 pt nt (encI T)) (hR : Rd w 1 pr nr (encI R)) (hV : Rd w 1 pv nv (encI V)) : Calls Tryz.prog 17 #[.agg #[.slice po no co, .slice pt nt ct, .slice pr nr cr, .slice pv nv cv]] w fun e w' => e = .returned (.bool (bigR O T R V)) ∧ Ext w w' := by
  have hd : bigR O T R V = (decide (30 < no) && decide (no ≤ 201) || decide (250 < no) || decide (250 < nr) || decide (150 < nt) && decide (nt ≤ 2000) || decide (2100 < nt) || decide (2100 < nv)) := by
    unfold bigR; rw [hO.nI, hT.nI, hR.nI, hV.nI]
  rw [hd]
  clear hd hO hT hR hV
  go_enter Tryz.func17, Tryz.ntmps17
  go_wp2
  all_goals (go_ret; refine ⟨ret_bool ?_, Ext.alloc (Below.refl _ _) _⟩; rw [Bool.eq_iff_iff]; simp only [Bool.or_eq_true, Bool.and_eq_true, decide_eq_true_eq, true_iff]; omega)
end Go.Proofs.YtkekibnhmfmhmaaGreat
/- Chapter 16 (reference): rows of messages that are the same. -/
namespace Go.Proofs.YtkekibnhmfmhmaaGreat
open Go Go.RowKit
theorem eqMl (a b c d : Int) (w : World) : (binOp .eql 81 (.agg #[.int .i64 a, .int .i64 b, .int .i64 c, .int .i64 d]) (.agg #[.int .i64 a, .int .i64 b, .int .i64 c, .int .i64 d])).run Tryz.prog w = .ok (.bool true) w := by
  have u3 := Tryz.underlying3
  have a3 := Tryz.isAgg3
  have z3 := Tryz.sizeOf3
  have uk := Tryz.underlying43
  have ak := Tryz.isAgg43
  have zk := Tryz.sizeOf43
  have hS : Tryz.prog.underlying 81 = some (.struct (Tryz.prog.fieldsOf 81)) := by kernel_rfl
  have hp : Tryz.prog.stoodInHeld 81 = false := by kernel_rfl
  have hS2 : Tryz.prog.underlying 43 = some (.struct (Tryz.prog.fieldsOf 43)) := by kernel_rfl
  have hp2 : Tryz.prog.stoodInHeld 43 = false := by kernel_rfl
  have hk : (Op.equalIn 9999 43 (.agg #[.int .i64 a, .int .i64 b, .int .i64 c]) (.agg #[.int .i64 a, .int .i64 b, .int .i64 c])).run Tryz.prog w = .ok true w := by
    rw [show (9999 : Nat) = 9998 + 1 from rfl, run_equalIn_agg w 9998 43 _ _ hS2 hp2]
    simp only [Program.fieldsOf, Tryz.underlying43]
    go_simp
  rw [run_eql_struct, show (10000 : Nat) = 9999 + 1 from rfl, run_equalIn_agg w 9999 81 _ _ hS hp]
  simp only [Program.fieldsOf, Tryz.underlying81]
  go_simp
theorem neqMl (a b c d : Int) (w : World) : (binOp .neq 81 (.agg #[.int .i64 a, .int .i64 b, .int .i64 c, .int .i64 d]) (.agg #[.int .i64 a, .int .i64 b, .int .i64 c, .int .i64 d])).run Tryz.prog w = .ok (.bool false) w := by
  have h := eqMl a b c d w
  rw [run_eql_struct] at h
  rw [run_neq_struct]
  generalize (Op.equalIn 10000 81 (.agg #[.int .i64 a, .int .i64 b, .int .i64 c, .int .i64 d]) (.agg #[.int .i64 a, .int .i64 b, .int .i64 c, .int .i64 d])).run Tryz.prog w = r at h ⊢
  cases r with
  | ok x w1 => simp only [Result.andThen_ok, Result.ok.injEq, Value.bool.injEq] at h ⊢; rw [h.1, h.2]; simp
  | halt x w1 => simp [Result.andThen] at h
theorem guardMl (op : BinOp) (x y : Operand) (xs ys : Array Value) (w : World) : (eqGuard op 81 x y (.agg xs) (.agg ys)).run Tryz.prog w = .ok () w := run_eqGuard_agg w op 81 x y xs ys (by kernel_rfl)
attribute [local go_sem ↓] eqMl neqMl guardMl
set_option maxRecDepth 100000 in
set_option maxHeartbeats 4000000 in
theorem SameQ (p q : Option Addr) (n m c d : Nat) (E : List Sq) (w : World) (h1 : Rd w 4 p n (encQ E)) (h2 : Rd w 4 q m (encQ E)) :
    Calls Tryz.prog 23 #[.slice p n c, .slice q m d] w fun e w' => e = .returned (.bool true) ∧ Ext w w' := by
  obtain rfl : n = m := by rw [h1.nQ, h2.nQ]
  have p1 := h1.ptr
  have p2 := h2.ptr
  have n1 := h1.small
  have H1 := Lib.hid h1; clear h1
  have H2 := Lib.hid h2; clear h2
  go_enter Tryz.func23, Tryz.ntmps23
  go_wp2
  go_loopw [5] (fun i wr => ∃ k : Nat, k ≤ n ∧ i = .int .i64 k ∧ Ext w wr) (fun i _ => n - (intOf i).toNat)
  case atStart => exact ⟨0, Nat.zero_le _, rfl, Below.refl _ _⟩
  case round =>
    obtain ⟨k, hk, rfl, hE⟩ := hrel
    by_cases hlt : k < n
    · obtain ⟨g1, g2, g3, g4⟩ := (H1.out.ext hE).cQ hlt
      obtain ⟨e1, e2, e3, e4⟩ := (H2.out.ext hE).cQ hlt
      have d1 : (0:Int) ≤ k := by omega
      have d2 : (k:Int) < n := by omega
      have HE := Lib.hid hE; clear hE
      generalize nth E k = x at *
      go_wp2
      go_quiet (fail)
      go_wp2
      go_roundw
      case rel => exact ⟨k + 1, by omega, by go_num, HE.out.drewN _⟩
      case measure => simp [intOf]; omega
    · have HE := Lib.hid hE; clear hE
      go_wp2
      go_ret
      exact ⟨rfl, HE.out⟩
end Go.Proofs.YtkekibnhmfmhmaaGreat
/- Chapter 18: the document's example. -/
namespace Go.Proofs.YtkekibnhmfmhmaaGreat
open Go Go.RowKit
theorem meetEx : MeetA [⟨0, 0, 1, 2⟩, ⟨0, 1, 1, 1⟩] true 3 := by
  refine ⟨fun h => (by cases h), fun _ => ⟨⟨⟨0, 0, 1, 2⟩, by simp, ⟨0, 1, 1, 1⟩, by simp, rfl, rfl, rfl, rfl⟩, ?_⟩⟩
  rintro s ⟨x, hx, y, hy, h1, h2, h3, rfl⟩
  simp only [List.mem_cons, List.not_mem_nil, or_false] at hx hy
  rcases hx with rfl | rfl <;> rcases hy with rfl | rfl <;> first | (exact Int.le_refl _) | (exact absurd h1 (by decide)) | (exact absurd h2 (by decide))
theorem chkEx : chkQ 1 2 5 [] 0 0 6 = 0 ∧ chkQ 1 2 5 [] 0 0 5 = 180 := by decide +kernel
theorem startEx : startQ 1 2 5 4 = [⟨4, 0, 2, 0⟩, ⟨4, 1, 5, 0⟩] ∧ startQ 3 2 0 4 = [⟨4, 0, 2, 0⟩] := by decide +kernel
theorem st1 (w : World) : Calls Tryz.prog 24 #[.agg #[.int .i64 1, .int .i64 2, .int .i64 5, .slice none 0 0, .int .i64 0, .int .i64 0], .int .i64 4] w fun e w' => ∃ q c, e = .returned (.slice q 2 c) ∧ Sep w w' [.own 81 4 q 2 c (encQ [⟨4, 0, 2, 0⟩, ⟨4, 1, 5, 0⟩])] := by
  have := StartQ 1 2 5 none 0 0 0 0 4 w
  rw [startEx.1] at this
  exact this
theorem st3 (w : World) : Calls Tryz.prog 24 #[.agg #[.int .i64 3, .int .i64 2, .int .i64 0, .slice none 0 0, .int .i64 0, .int .i64 0], .int .i64 4] w fun e w' => ∃ q c, e = .returned (.slice q 1 c) ∧ Sep w w' [.own 81 4 q 1 c (encQ [⟨4, 0, 2, 0⟩])] := by
  have := StartQ 3 2 0 none 0 0 0 0 4 w
  rw [startEx.2] at this
  exact this
theorem ck6 (w : World) : Calls Tryz.prog 21 #[.agg #[.int .i64 1, .int .i64 2, .int .i64 5, .slice none 0 0, .int .i64 0, .int .i64 0], .int .i64 6] w fun e w' => e = .returned (.int .i64 0) ∧ Ext w w' := by
  have := CheckQ 1 2 5 none 0 0 [] 0 0 6 w (Rd.nil _ _ _) (fun s h => by cases h)
  rw [chkEx.1] at this
  exact this
theorem ck5 (w : World) : Calls Tryz.prog 21 #[.agg #[.int .i64 1, .int .i64 2, .int .i64 5, .slice none 0 0, .int .i64 0, .int .i64 0], .int .i64 5] w fun e w' => e = .returned (.int .i64 180) ∧ Ext w w' := by
  have := CheckQ 1 2 5 none 0 0 [] 0 0 5 w (Rd.nil _ _ _) (fun s h => by cases h)
  rw [chkEx.2] at this
  exact this
theorem done1 (p : Option Addr) (c : Nat) (w : World) (hl : Rd w 4 p 2 (encQ [⟨0, 0, 1, 2⟩, ⟨0, 1, 1, 1⟩])) : Calls Tryz.prog 13 #[.agg #[.int .i64 1, .int .i64 2, .int .i64 5, .slice none 0 0, .int .i64 0, .int .i64 0], .slice none 0 0, .slice p 2 c, .slice none 0 0] w fun e w' => e = .returned (.tuple #[.agg #[.bool true, .int .i64 3, .slice none 0 0], .bool true]) ∧ Ext w w' := by
  refine (Done1 2 5 none 0 0 0 0 none 0 0 p 2 c _ none 0 0 [] w hl (Rd.nil _ _ _) (fun x hx => ?_) (fun x hx => ?_) (by omega)).mono ?_
  · simp only [List.mem_cons, List.not_mem_nil, or_false] at hx
    rcases hx with rfl | rfl <;> (unfold I64; decide)
  · simp only [List.mem_cons, List.not_mem_nil, or_false] at hx
    rcases hx with rfl | rfl <;> decide
  · rintro e w' ⟨b, d, rfl, hE, hA⟩
    obtain ⟨rfl, rfl⟩ := meetA_uniq hA meetEx
    exact ⟨rfl, hE⟩
theorem rd1 {w : World} {q : Option Addr} (h : Rd w 4 q 2 (encQ [⟨4, 0, 2, 0⟩, ⟨4, 1, 5, 0⟩])) : Rd w 4 q 1 (encQ [⟨4, 0, 2, 0⟩]) := h.take (k := 1) (by omega)
set_option maxRecDepth 100000 in
set_option maxHeartbeats 4000000 in
theorem ProgsG (w : World) : Calls Tryz.prog 15 #[] w fun e w' => e = .returned (.bool true) ∧ Ext w w' := by
  have S0 := Lib.hid ((Sep.start w).al #[.int .i64 1, .int .i64 2, .int .i64 5, .slice none 0 0, .int .i64 0, .int .i64 0] 24 w.heap.size rfl)
  go_enter Tryz.func15, Tryz.ntmps15
  go_wp2_with (first | (go_at_call 21; have _t := S8; go_must ((with_reducible refine (ck5 _).mono ?_); rintro e w8 ⟨rfl, T⟩; have S9 := Lib.hid (S8.out.call T); clear a0 a1 a2 a3 a4 a5 az; have r0 := (S9.out.blk 0 rfl).cell 0; have r1 := (S9.out.blk 0 rfl).cell 1; have rz := (S9.out.blk 0 rfl).lt; clear T)) | (go_at_call 21; go_must ((with_reducible refine (ck6 _).mono ?_); rintro e w7 ⟨rfl, T⟩; have S8 := Lib.hid (S7.out.call T); clear a0 a1 a2 a3 a4 a5 az; have a0 := (S8.out.blk 5 rfl).cell 0; have a1 := (S8.out.blk 5 rfl).cell 1; have a2 := (S8.out.blk 5 rfl).cell 2; have a3 := (S8.out.blk 5 rfl).cell 3; have a4 := (S8.out.blk 5 rfl).cell 4; have a5 := (S8.out.blk 5 rfl).cell 5; have az := (S8.out.blk 5 rfl).lt; clear T)) | (go_at_call 23; have _t := S6; go_must ((refine (SameQ _ _ _ _ _ _ [⟨4, 0, 2, 0⟩] _ (S6.out.rdx 3 rfl) (rd1 (S6.out.rdx 2 rfl))).mono ?_); rintro e w6 ⟨rfl, T⟩; have S7 := Lib.hid (S6.out.call T); have a0 := (S7.out.blk 5 rfl).cell 0; have a1 := (S7.out.blk 5 rfl).cell 1; have a2 := (S7.out.blk 5 rfl).cell 2; have a3 := (S7.out.blk 5 rfl).cell 3; have a4 := (S7.out.blk 5 rfl).cell 4; have a5 := (S7.out.blk 5 rfl).cell 5; have az := (S7.out.blk 5 rfl).lt; clear T)) | (go_at_call 23; go_must ((refine (SameQ _ _ _ _ _ _ [⟨4, 0, 2, 0⟩, ⟨4, 1, 5, 0⟩] _ (S5.out.rdx 4 rfl) (S5.out.rdx 2 rfl)).mono ?_); rintro e w5 ⟨rfl, T⟩; have S6 := Lib.hid (S5.out.call T); clear T)) | (go_at_call 13; go_must ((refine (done1 _ _ _ (S3.out.rdx 0 rfl)).mono ?_); rintro e w4 ⟨rfl, T⟩; have S5 := Lib.hid ((S3.out.call T).al #[.bool true, .int .i64 3, .slice none 0 0] 33 w4.heap.size rfl); clear a0 a1 a2 a3 a4 a5 az; clear T)) | (go_at_call 24; have _t := S1; go_must ((with_reducible refine (st3 _).mono ?_); rintro e w2 ⟨q2, c2, rfl, T⟩; have S2 := Lib.hid (S1.out.comp T); clear a0 a1 a2 a3 a4 a5 az; have S3 := Lib.hid ((S2.out.alrw #[.int .i64 4, .int .i64 0, .int .i64 2, .int .i64 0, .int .i64 4, .int .i64 1, .int .i64 5, .int .i64 0] 81 4 2 w2.heap.size rfl (by decide) rfl).alrw #[.int .i64 0, .int .i64 0, .int .i64 1, .int .i64 2, .int .i64 0, .int .i64 1, .int .i64 1, .int .i64 1] 45 4 2 (w2.heap.size + 1) (by simp) (by decide) rfl); have a0 := (S3.out.blk 4 rfl).cell 0; have a1 := (S3.out.blk 4 rfl).cell 1; have a2 := (S3.out.blk 4 rfl).cell 2; have a3 := (S3.out.blk 4 rfl).cell 3; have a4 := (S3.out.blk 4 rfl).cell 4; have a5 := (S3.out.blk 4 rfl).cell 5; have az := (S3.out.blk 4 rfl).lt; clear T)) | (go_at_call 24; go_must ((with_reducible refine (st1 _).mono ?_); rintro e w1 ⟨q1, c1, rfl, T⟩; have S1 := Lib.hid (S0.out.comp T); have a0 := (S1.out.blk 1 rfl).cell 0; have a1 := (S1.out.blk 1 rfl).cell 1; have a2 := (S1.out.blk 1 rfl).cell 2; have a3 := (S1.out.blk 1 rfl).cell 3; have a4 := (S1.out.blk 1 rfl).cell 4; have a5 := (S1.out.blk 1 rfl).cell 5; have az := (S1.out.blk 1 rfl).lt; clear T)))
  go_ret
  exact ⟨rfl, S9.out.ext⟩
end Go.Proofs.YtkekibnhmfmhmaaGreat
/- Chapter 18: what is not looked at; messages that may be. -/
namespace Go.Proofs.YtkekibnhmfmhmaaGreat
open Go Go.RowKit
def longQ (s : ByteArray) : Bool := decide (60 < s.size)
def bigQ (ws : List ByteArray) : Bool := (decide (ws.length ≤ 20) && ws.any longQ) || decide (20 < ws.length)
theorem bigQ_no {ws : List ByteArray} (h : bigQ ws = false) : ws.length ≤ 20 ∧ ∀ s ∈ ws, s.size ≤ 60 := by
  unfold bigQ at h
  rw [Bool.or_eq_false_iff, decide_eq_false_iff_not] at h
  have h1 : ws.length ≤ 20 := by omega
  refine ⟨h1, fun s hs => ?_⟩
  have h2 := h.1
  rw [decide_eq_true h1, Bool.true_and] at h2
  have := List.any_eq_false.1 h2 s hs
  simpa [longQ] using this
set_option maxRecDepth 100000 in
set_option maxHeartbeats 2000000 in
theorem BigQ (k f t : Int) (pw : Option Addr) (nw cw : Nat) (ws : List ByteArray) (rad most : Int) (w : World) (hw : Rd w 1 pw nw (encS ws)) :
    Calls Tryz.prog 10 #[.agg #[.int .i64 k, .int .i64 f, .int .i64 t, .slice pw nw cw, .int .i64 rad, .int .i64 most]] w fun e w' => e = .returned (.bool (bigQ ws)) ∧ Ext w w' := by
  have l1 := hw.nS
  have p1 := hw.ptr
  have n1 := hw.small
  have HE := Lib.hid ((Sep.start w).al #[.int .i64 k, .int .i64 f, .int .i64 t, .slice pw nw cw, .int .i64 rad, .int .i64 most] 24 w.heap.size rfl).ext
  have HW := Lib.hid (hw.ext HE.out)
  have L1 := Lib.hid l1
  clear l1 hw
  by_cases h20 : nw ≤ 20
  · have HB : Hid (bigQ ws = ws.any longQ) := by unfold Hid bigQ; rw [← L1.out, decide_eq_true h20, decide_eq_false (by omega)]; simp
    go_enter Tryz.func10, Tryz.ntmps10
    go_wp2
    go_loop [3] (fun i => ∃ j : Nat, j ≤ nw ∧ i = .int .i64 j ∧ (ws.take j).any longQ = false) (fun i => nw - (intOf i).toNat)
    case atStart => exact ⟨0, Nat.zero_le _, rfl, rfl⟩
    case round =>
      obtain ⟨j, hj, rfl, ha⟩ := hrel
      have HA := Lib.hid ha; clear ha
      by_cases hlt : j < nw
      · have g1 := HW.out.cS hlt
        have hjl : j < ws.length := by rw [← L1.out]; exact hlt
        have d1 : (0:Int) ≤ j := by omega
        have d2 : (j:Int) < nw := by omega
        have HTA := Lib.hid (any_true_at longQ ws j hjl)
        have HST := Lib.hid (any_step longQ ws j hjl HA.out)
        clear hjl
        generalize nth ws j = s at *
        by_cases h60 : 60 < s.size
        · have HF := Lib.hid (HTA.out (by unfold longQ; exact decide_eq_true h60))
          clear HTA HST
          go_wp2
          go_ret
          exact ⟨ret_bool (by rw [HB.out, HF.out]), HE.out⟩
        · have HF := Lib.hid (HST.out (by unfold longQ; exact decide_eq_false h60))
          have e1 : decide (60 < s.size) = false := by simpa using h60
          have e2 : decide ((60:Int) < (s.size:Int)) = false := by simp; omega
          clear HTA HST h60
          go_wp2
          go_round
          case rel => exact ⟨j + 1, by omega, by go_num, HF.out⟩
          case measure => simp [intOf]; omega
      · have HF := Lib.hid (any_end _ _ _ (by rw [← L1.out]; exact hlt) HA.out)
        have e1 : decide (20 < nw) = false := by simp; omega
        have e2 : decide ((20:Int) < (nw:Int)) = false := by simp; omega
        go_wp2
        go_ret
        exact ⟨ret_bool (by rw [HB.out, HF.out]), HE.out⟩
  · have HB : Hid (bigQ ws = true) := by unfold Hid bigQ; rw [← L1.out, decide_eq_true (show 20 < nw by omega)]; simp
    have e1 : decide (nw ≤ 20) = false := by simpa using h20
    have e2 : decide ((nw:Int) ≤ 20) = false := by simp; omega
    have e3 : 0 < nw := by omega
    have e4 : 20 < nw := by omega
    clear h20
    go_enter Tryz.func10, Tryz.ntmps10
    go_wp2
    go_loop [3] (fun i => i = .int .i64 0) (fun _ => 0)
    case atStart => rfl
    case round =>
      obtain rfl := hrel
      go_wp2
      go_ret
      exact ⟨ret_bool (by rw [HB.out]; simp; omega), HE.out⟩
def keyB (s r v : Int) : Bool := decide (0 ≤ s ∧ s ≤ 1000) && decide (r = 0 ∨ r = 1) && decide (0 ≤ v ∧ v < 200)
def mayB (x : Sq) : Bool := keyB x.s x.r x.v && decide (0 ≤ x.d ∧ x.d ≤ 200)
theorem mayB_iff {x : Sq} : mayB x = true ↔ 0 ≤ x.s ∧ x.s ≤ 1000 ∧ (x.r = 0 ∨ x.r = 1) ∧ 0 ≤ x.v ∧ x.v < 200 ∧ 0 ≤ x.d ∧ x.d ≤ 200 := by
  unfold mayB keyB
  simp only [Bool.and_eq_true, decide_eq_true_eq]
  constructor
  · rintro ⟨⟨⟨⟨h1, h2⟩, h3⟩, h4, h5⟩, h6, h7⟩; exact ⟨h1, h2, h3, h4, h5, h6, h7⟩
  · rintro ⟨h1, h2, h3, h4, h5, h6, h7⟩; exact ⟨⟨⟨⟨h1, h2⟩, h3⟩, h4, h5⟩, h6, h7⟩
end Go.Proofs.YtkekibnhmfmhmaaGreat
/- A new row, where it lies. -/
namespace Go.Proofs.YtkekibnhmfmhmaaGreat
open Go Go.RowKit
theorem Rd.newAt (w : World) (t : TypeId) (cs : List Value) (n size g : Nat) (hg : w.heap.size = g) (h : cs.length = n * size) (hn : n ≤ 9223372036854775807) : Rd (w.alloc (.cells cs.toArray t)) size (some ⟨g, 0, none⟩) n cs := by
  subst hg; exact Rd.new w t cs n size h hn
end Go.Proofs.YtkekibnhmfmhmaaGreat
/- Chapter 18 (reference): place, Start, Check. -/
namespace Go.Proofs.YtkekibnhmfmhmaaGreat
open Go Go.RowKit
theorem Place18 (v n : Int) (w : World) : Calls Tryz.prog 64 #[.int .i64 v, .int .i64 n] w fun e w' => e = .returned (.bool (plcB v n)) ∧ w = w' := by
  by_cases h : 0 ≤ v
  · go_enter Tryz.func64, Tryz.ntmps64
    go_wp2
    go_ret
    exact ⟨ret_bool (by unfold plcB; simp [h]), rfl⟩
  · have e0 : decide (0 ≤ v) = false := by simpa using h
    go_enter Tryz.func64, Tryz.ntmps64
    go_wp2
    go_ret
    exact ⟨ret_bool (by unfold plcB; rw [e0]; rfl), rfl⟩
set_option maxRecDepth 100000 in
set_option maxHeartbeats 4000000 in
theorem Start18 (k f t : Int) (pw : Option Addr) (nw cw : Nat) (rad most s : Int) (w : World) :
    Calls Tryz.prog 25 #[.agg #[.int .i64 k, .int .i64 f, .int .i64 t, .slice pw nw cw, .int .i64 rad, .int .i64 most], .int .i64 s] w fun e w' => ∃ q c, e = .returned (.slice q (startQ k f t s).length c) ∧ Sep w w' [.own 81 4 q (startQ k f t s).length c (encQ (startQ k f t s))] := by
  obtain ⟨i0, hi0, hz0, hz1, hz2⟩ := info_parts infMail
  have S0 := Lib.hid ((Sep.start w).al #[.int .i64 k, .int .i64 f, .int .i64 t, .slice pw nw cw, .int .i64 rad, .int .i64 most] 24 w.heap.size rfl)
  by_cases h0 : k < 1
  · have HQ : Hid (startQ k f t s = []) := by unfold Hid startQ; rw [if_neg (by omega), if_neg (by omega)]
    rw [HQ.out]
    go_enter Tryz.func25, Tryz.ntmps25
    go_wp2
    go_ret
    exact ⟨none, 0, rfl, (S0.out.nilrow _ _).pick [0] (by decide) rfl⟩
  · have e0 : decide (k < 1) = false := by simpa using h0
    by_cases h3 : 3 < k
    · have e3 : decide (3 < k) = true := by simpa using h3
      have HQ : Hid (startQ k f t s = []) := by unfold Hid startQ; rw [if_neg (by omega), if_neg (by omega)]
      rw [HQ.out]
      go_enter Tryz.func25, Tryz.ntmps25
      go_wp2
      go_ret
      exact ⟨none, 0, rfl, (S0.out.nilrow _ _).pick [0] (by decide) rfl⟩
    · have e3 : decide (3 < k) = false := by simpa using h3
      have S1 := Lib.hid (S0.out.alrw #[.int .i64 s, .int .i64 0, .int .i64 f, .int .i64 0] 81 4 1 (w.heap.size + 1) (by simp) (by decide) rfl)
      by_cases k1 : k = 1
      · subst k1
        have HQ : Hid (startQ 1 f t s = [⟨s, 0, f, 0⟩, ⟨s, 1, t, 0⟩]) := rfl
        rw [HQ.out]
        clear h0 h3 HQ
        go_enter Tryz.func25, Tryz.ntmps25
        go_wp2_with (at_builtin; go_must (refine wpList_append_sep rfl _ _ _ rfl 81 i0 _ 4 32 Tryz.underlying27 hi0 hz0 hz1 hz2 rfl (by omega) (S1.out.junk _) 0 (some ⟨w.heap.size + 1, 0, none⟩) 1 1 (encQ [⟨s, 0, f, 0⟩]) rfl rfl _ 1 1 _ rfl (Rd.newAt _ _ _ 1 4 _ (by simp) rfl (by omega)) (one_encQ [⟨s, 1, t, 0⟩]) (by omega) (by omega) ?_; intro q7 c7 w7 S' hsz; have S7 := Lib.hid S'; clear S' hsz))
        go_ret
        exact ⟨q7, c7, rfl, S7.out.pick [0] (by decide) rfl⟩
      · have HQ : Hid (startQ k f t s = [⟨s, 0, f, 0⟩]) := by unfold Hid startQ; rw [if_neg k1, if_pos (by omega)]
        have e1 : (k == 1) = false := by simpa using k1
        rw [HQ.out]
        clear h0 h3 HQ k1
        go_enter Tryz.func25, Tryz.ntmps25
        go_wp2
        go_ret
        exact ⟨some ⟨w.heap.size + 1, 0, none⟩, 1, by simp, S1.out.pick [0] (by decide) rfl⟩
theorem all_word_end {l : List ByteArray} {k : Nat} (h : ¬ k < l.length) (ha : (l.take k).all wordB = true) : l.all wordB = true := by rwa [List.take_of_length_le (by omega)] at ha
theorem all_word_bad {l : List ByteArray} {k : Nat} (h : k < l.length) (hb : wordB (nth l k) = false) : l.all wordB = false := by
  rw [Bool.eq_false_iff]
  intro ha
  rw [List.all_eq_true] at ha
  have := ha (nth l k) (by rw [nth_eq h]; exact List.getElem_mem _)
  rw [hb] at this; cases this
theorem all_word_step {l : List ByteArray} {k : Nat} (h : k < l.length) (ha : (l.take k).all wordB = true) (hb : wordB (nth l k) = true) : (l.take (k + 1)).all wordB = true := by
  rw [take_succ_nth l k h, List.all_append, ha]; simp [hb]
set_option maxRecDepth 100000 in
set_option maxHeartbeats 8000000 in
theorem Check18 (k f t : Int) (pw : Option Addr) (nw cw : Nat) (ws : List ByteArray) (rad most : Int) (n : Int) (w : World) (hw : Rd w 1 pw nw (encS ws)) (hz : ∀ s ∈ ws, s.size ≤ 1000000) :
    Calls Tryz.prog 22 #[.agg #[.int .i64 k, .int .i64 f, .int .i64 t, .slice pw nw cw, .int .i64 rad, .int .i64 most], .int .i64 n] w fun e w' => e = .returned (.int .i64 (chkQ k f t ws rad most n)) ∧ Ext w w' := by
  have l1 := hw.nS
  have p1 := hw.ptr
  have n1 := hw.small
  have S0 := Lib.hid ((Sep.start w).al #[.int .i64 k, .int .i64 f, .int .i64 t, .slice pw nw cw, .int .i64 rad, .int .i64 most] 24 w.heap.size rfl)
  have HE := Lib.hid S0.out.ext
  have HW := Lib.hid hw
  have HZ := Lib.hid hz
  have L1 := Lib.hid l1
  clear hz l1 hw
  by_cases h0 : k < 1
  · have HF : Hid (chkQ k f t ws rad most n = 180) := chkQ_no (okQ_else (by omega) (by omega))
    clear S0
    go_enter Tryz.func22, Tryz.ntmps22
    go_wp2_with (first | (go_at_call 64; refine (Place18 _ _ _).mono ?_; rintro e w' ⟨rfl, rfl⟩))
    go_ret
    exact ⟨by (rw [HF.out]; rfl), HE.out⟩
  · have e0 : decide (k < 1) = false := by simpa using h0
    by_cases h3 : 3 < k
    · have e3 : decide (3 < k) = true := by simpa using h3
      have HF : Hid (chkQ k f t ws rad most n = 180) := chkQ_no (okQ_else (by omega) (by omega))
      clear S0
      go_enter Tryz.func22, Tryz.ntmps22
      go_wp2_with (first | (go_at_call 64; refine (Place18 _ _ _).mono ?_; rintro e w' ⟨rfl, rfl⟩))
      go_ret
      exact ⟨by (rw [HF.out]; rfl), HE.out⟩
    · have e3 : decide (3 < k) = false := by simpa using h3
      by_cases k3 : k = 3
      · subst k3
        clear h0 h3 e0 e3
        have HO := Lib.hid (okQ_3 (f := f) (t := t) (ws := ws) (rad := rad) (most := most) (n := n))
        cases h1 : plcB f n with
        | false =>
          have HF : Hid (chkQ 3 f t ws rad most n = 180) := chkQ_no (by rw [HO.out, h1]; simp)
          go_enter Tryz.func22, Tryz.ntmps22
          go_wp2_with (first | (go_at_call 64; refine (Place18 _ _ _).mono ?_; rintro e w' ⟨rfl, rfl⟩))
          go_ret
          exact ⟨by (rw [HF.out]; rfl), HE.out⟩
        | true =>
          rw [h1, Bool.true_and] at HO
          by_cases c1 : nw < 1
          · have HM : manyB ws = false := by unfold manyB; rw [← L1.out]; simp [Nat.not_le.2 c1]
            have HF : Hid (chkQ 3 f t ws rad most n = 180) := chkQ_no (by rw [HO.out, HM]; simp)
            have e : decide ((nw:Int) < 1) = true := by simp; omega
            clear HM
            go_enter Tryz.func22, Tryz.ntmps22
            go_wp2_with (first | (go_at_call 64; refine (Place18 _ _ _).mono ?_; rintro e w' ⟨rfl, rfl⟩))
            go_ret
            exact ⟨by (rw [HF.out]; rfl), HE.out⟩
          · have e4 : decide ((nw:Int) < 1) = false := by simp; omega
            have e4n : decide (nw < 1) = false := by simpa using c1
            by_cases c2 : 8 < nw
            · have HM : manyB ws = false := by unfold manyB; rw [← L1.out]; simp [Nat.not_le.2 c2]
              have HF : Hid (chkQ 3 f t ws rad most n = 180) := chkQ_no (by rw [HO.out, HM]; simp)
              have e : decide ((8:Int) < (nw:Int)) = true := by simp; omega
              clear HM
              go_enter Tryz.func22, Tryz.ntmps22
              go_wp2_with (first | (go_at_call 64; refine (Place18 _ _ _).mono ?_; rintro e w' ⟨rfl, rfl⟩))
              go_ret
              exact ⟨by (rw [HF.out]; rfl), HE.out⟩
            · have e5 : decide ((8:Int) < (nw:Int)) = false := by simp; omega
              have e5n : decide (8 < nw) = false := by simpa using c2
              by_cases r1 : rad < 0
              · have HF : Hid (chkQ 3 f t ws rad most n = 180) := chkQ_no (by rw [HO.out]; unfold numB; rw [decide_eq_false (Int.not_le.2 r1)]; simp)
                go_enter Tryz.func22, Tryz.ntmps22
                go_wp2_with (first | (go_at_call 64; refine (Place18 _ _ _).mono ?_; rintro e w' ⟨rfl, rfl⟩))
                go_ret
                exact ⟨by (rw [HF.out]; rfl), HE.out⟩
              · have e6 : decide (rad < 0) = false := by simpa using r1
                by_cases r2 : 200 < rad
                · have HF : Hid (chkQ 3 f t ws rad most n = 180) := chkQ_no (by rw [HO.out]; unfold numB; rw [decide_eq_false (Int.not_le.2 r2)]; simp)
                  go_enter Tryz.func22, Tryz.ntmps22
                  go_wp2_with (first | (go_at_call 64; refine (Place18 _ _ _).mono ?_; rintro e w' ⟨rfl, rfl⟩))
                  go_ret
                  exact ⟨by (rw [HF.out]; rfl), HE.out⟩
                · have e7 : decide (200 < rad) = false := by simpa using r2
                  by_cases m1 : most < 1
                  · have HF : Hid (chkQ 3 f t ws rad most n = 180) := chkQ_no (by rw [HO.out]; unfold numB; rw [decide_eq_false (Int.not_le.2 m1)]; simp)
                    go_enter Tryz.func22, Tryz.ntmps22
                    go_wp2_with (first | (go_at_call 64; refine (Place18 _ _ _).mono ?_; rintro e w' ⟨rfl, rfl⟩))
                    go_ret
                    exact ⟨by (rw [HF.out]; rfl), HE.out⟩
                  · have e8 : decide (most < 1) = false := by simpa using m1
                    by_cases m2 : 100 < most
                    · have HF : Hid (chkQ 3 f t ws rad most n = 180) := chkQ_no (by rw [HO.out]; unfold numB; rw [decide_eq_false (Int.not_le.2 m2)]; simp)
                      go_enter Tryz.func22, Tryz.ntmps22
                      go_wp2_with (first | (go_at_call 64; refine (Place18 _ _ _).mono ?_; rintro e w' ⟨rfl, rfl⟩))
                      go_ret
                      exact ⟨by (rw [HF.out]; rfl), HE.out⟩
                    · have e9 : decide (100 < most) = false := by simpa using m2
                      have HOK : Hid (chkQ 3 f t ws rad most n = if ws.all wordB = true then 0 else 180) := by
                        have hn : numB rad most = true := by unfold numB; simp; omega
                        have hm : manyB ws = ws.all wordB := by unfold manyB; rw [← L1.out]; simp; omega
                        unfold Hid chkQ
                        rw [HO.out, hn, hm, Bool.and_true]
                      clear HO c1 c2 r1 r2 m1 m2
                      go_enter Tryz.func22, Tryz.ntmps22
                      go_wp2_with (first | (go_at_call 64; refine (Place18 _ _ _).mono ?_; rintro e w' ⟨rfl, rfl⟩))
                      go_loopw [5] (fun i wr => ∃ j : Nat, j ≤ nw ∧ i = .int .i64 j ∧ Hid ((ws.take j).all wordB = true) ∧ Sep w wr [.blk w.heap.size 24 #[.int .i64 3, .int .i64 f, .int .i64 t, .slice pw nw cw, .int .i64 rad, .int .i64 most]]) (fun i _ => nw - (intOf i).toNat)
                      case atStart => exact ⟨0, Nat.zero_le _, rfl, rfl, S0.out⟩
                      case round =>
                        obtain ⟨j, hj, rfl, HA, S⟩ := hrel
                        clear S0
                        have b3 := (S.blk 0 rfl).cell 3
                        have bz := (S.blk 0 rfl).lt
                        by_cases hlt : j < nw
                        · have g1 := (HW.out.ext S.ext).cS hlt
                          have hjl : j < ws.length := by rw [← L1.out]; exact hlt
                          have hsz : (nth ws j).size ≤ 140737488355328 := by
                            have := HZ.out (nth ws j) (by rw [nth_eq hjl]; exact List.getElem_mem _)
                            omega
                          cases hb : wordB (nth ws j) with
                          | true =>
                            have HS := Lib.hid (all_word_step hjl HA.out hb)
                            clear hjl
                            go_wp2_with (go_at_call 65; refine (Word02 _ _ hsz).mono ?_; rintro e w' ⟨rfl, rfl⟩)
                            go_roundw
                            case rel => exact ⟨j + 1, by omega, by go_num, HS, S⟩
                            case measure => simp [intOf]; omega
                          | false =>
                            have HS := Lib.hid (all_word_bad hjl hb)
                            clear hjl
                            go_wp2_with (go_at_call 65; refine (Word02 _ _ hsz).mono ?_; rintro e w' ⟨rfl, rfl⟩)
                            go_ret
                            exact ⟨by (rw [HOK.out, HS.out]; rfl), S.ext⟩
                        · go_wp2
                          go_ret
                          exact ⟨by (rw [HOK.out, if_pos (all_word_end (by rw [← L1.out]; exact hlt) HA.out)]; rfl), S.ext⟩
      · have e1 : decide (k < 3) = true := by simp; omega
        have HO := Lib.hid (okQ_12 (f := f) (t := t) (ws := ws) (rad := rad) (most := most) (n := n) (show k = 1 ∨ k = 2 by omega))
        cases h1 : plcB f n with
        | false =>
          have HF : Hid (chkQ k f t ws rad most n = 180) := chkQ_no (by rw [HO.out, h1]; rfl)
          clear S0 HO
          go_enter Tryz.func22, Tryz.ntmps22
          go_wp2_with (first | (go_at_call 64; refine (Place18 _ _ _).mono ?_; rintro e w' ⟨rfl, rfl⟩))
          go_ret
          exact ⟨by (rw [HF.out]; rfl), HE.out⟩
        | true =>
          cases h2 : plcB t n with
          | false =>
            have HF : Hid (chkQ k f t ws rad most n = 180) := chkQ_no (by rw [HO.out, h1, h2]; rfl)
            clear S0 HO
            go_enter Tryz.func22, Tryz.ntmps22
            go_wp2_with (first | (go_at_call 64; refine (Place18 _ _ _).mono ?_; rintro e w' ⟨rfl, rfl⟩))
            go_ret
            exact ⟨by (rw [HF.out]; rfl), HE.out⟩
          | true =>
            have HF : Hid (chkQ k f t ws rad most n = 0) := chkQ_yes (by rw [HO.out, h1, h2]; rfl)
            clear S0 HO
            go_enter Tryz.func22, Tryz.ntmps22
            go_wp2_with (first | (go_at_call 64; refine (Place18 _ _ _).mono ?_; rintro e w' ⟨rfl, rfl⟩))
            go_ret
            exact ⟨by (rw [HF.out]; rfl), HE.out⟩
end Go.Proofs.YtkekibnhmfmhmaaGreat
