/- The program's Make of postings. -/
import Derived.Test.YtcjkechemjdboaaPlainMk
import Derived.Test.YtcjkechemjdboaaMapT
import Derived.Test.YtcjkechemjdboaaG10
namespace Go.Proofs.Ytcjkechemjdboaa
open Go Go.RowKit
theorem zeroL (w : World) : (zeroValue 38).run Try.prog w = .ok (.slice none 0 0) w := by kernel_rfl
theorem MakeG_no (N : Int) (pe : Option Addr) (ne ce : Nat) (pw : Option Addr) (nw cw : Nat) (E : List (Int × Int)) (hs : List Hd) (W : List (List ByteArray)) (w : World) (hE : Rd w 2 pe ne (encE E)) (hW : RdW w pw nw hs W) (hz : SzW W) (hi : isB N E W = false) :
    Calls Try.prog 15 #[.agg #[.int .i64 N, .slice pe ne ce, .slice pw nw cw]] w fun e w' => e = .returned (.tuple #[.slice none 0 0, .int .i64 20]) ∧ Ext w w' := by
  have HI := Lib.hid (fun W1 (h : Ext w W1) => IsG N pe ne ce pw nw cw E hs W W1 (hE.ext h) (hW.ext h) hz)
  rw [hi] at HI
  have hx : Ext w (w.alloc (.cells #[.int .i64 N, .slice pe ne ce, .slice pw nw cw] 25)) := Ext.alloc (Below.refl _ _) _
  clear hE hW hz hi
  go_enter Try.func15, Try.ntmps15
  go_wp2_with (go_at_call 56; go_must (refine (HI.out _ hx).mono ?_; rintro e w1 ⟨rfl, hb⟩; have B1 := Lib.hid (Ext.trans hx hb); clear hb))
  go_ret2
  exact ⟨rfl, B1.out⟩
/-- what has been gathered, in memory -/
structure GS (w wr : World) (b g : Nat) (cs : Array Value) (O : List Occ) (A : List Po) (hs : List Hd) (q : Option Addr) (c : Nat) (f : ByteArray → Option Value) : Prop where
  len : hs.length = A.length
  gath : Gath O A
  some_ : ∀ r, r < A.length → f (nth A r).1 = some (nth hs r).v
  none_ : ∀ s, s ∉ A.map (·.1) → f s = none
  sep : Sep w wr [.rowsD 3 1 (rowsP A hs), .own 9 1 q A.length c (encS (A.map (·.1))), .mapT Try.prog 9 b O.length f, .blk g 25 cs]
theorem rowsP_set {A : List Po} {hs : List Hd} {r : Nat} {p : Po} {h : Hd} : rowsP (A.set r p) (hs.set r h) = (rowsP A hs).set r (h, encI p.2) := by
  unfold rowsP
  rw [List.map_set]
  apply List.ext_getElem?
  intro i
  simp only [List.getElem?_zip_eq_some, List.zip, List.getElem?_zipWith, List.getElem?_set, List.length_zipWith]
  by_cases e : r = i
  · subst e
    by_cases h1 : r < hs.length <;> by_cases h2 : r < A.length <;> simp [h1, h2] <;> omega
  · simp [e]
theorem rowsP_get {A : List Po} {hs : List Hd} {r : Nat} (h : hs.length = A.length) (hr : r < A.length) : (rowsP A hs)[r]? = some (nth hs r, encI (nth A r).2) := by
  unfold rowsP
  rw [nth_eq (by omega), nth_eq hr, List.getElem?_eq_getElem (by simp; omega)]
  simp
theorem nth_set_eq {α : Type} [Inhabited α] {l : List α} {r : Nat} {x : α} (h : r < l.length) : nth (l.set r x) r = x := by rw [nth_eq (by simpa using h)]; simp
theorem nth_set_ne {α : Type} [Inhabited α] {l : List α} {r i : Nat} {x : α} (h : i ≠ r) (hi : i < l.length) : nth (l.set r x) i = nth l i := by rw [nth_eq (by simpa using hi), nth_eq hi, List.getElem_set_ne (fun e => h e.symm)]
/-- a word that is new -/
theorem GS.new {w wr : World} {b g : Nat} {cs : Array Value} {O : List Occ} {A : List Po} {hs : List Hd} {q : Option Addr} {c : Nat} {f : ByteArray → Option Value} (G : GS w wr b g cs O A hs q c f) {s : ByteArray} (hs' : s ∉ A.map (·.1)) {v : Int} {wn : World} {q1 q2 : Option Addr} {c1 c2 : Nat}
    (S : Sep w wn [.rowsD 3 1 ((rowsP A hs ++ [((⟨none, 0, 0⟩ : Hd), ([] : List Value))]).set A.length ((⟨q2, 1, c2⟩ : Hd), [Value.int .i64 v])), .own 9 1 q1 (A.length + 1) c1 (encS (A.map (·.1)) ++ encS [s]), .mapT Try.prog 9 b (O.length + 1) (upT f s (.slice q2 1 c2)), .blk g 25 cs]) :
    GS w wn b g cs (O ++ [(v, s)]) (A ++ [(s, [v])]) (hs ++ [⟨q2, 1, c2⟩]) q1 c1 (upT f s (.slice q2 1 c2)) := by
  have hlen : (rowsP A hs).length = A.length := by unfold rowsP; simp [G.len]
  have hrow : (rowsP A hs ++ [((⟨none, 0, 0⟩ : Hd), ([] : List Value))]).set A.length ((⟨q2, 1, c2⟩ : Hd), [Value.int .i64 v]) = rowsP (A ++ [(s, [v])]) (hs ++ [⟨q2, 1, c2⟩]) := by
    rw [rowsP_snoc _ _ _ _ G.len, List.set_append_right _ _ (by omega), hlen, Nat.sub_self]; rfl
  refine ⟨by simp [G.len], G.gath.new hs', fun r hr => ?_, fun t ht => ?_, ?_⟩
  · rw [List.length_append, List.length_singleton] at hr
    by_cases e : r < A.length
    · rw [nth_append_left _ _ _ e, nth_append_left _ _ _ (by rw [G.len]; exact e)]
      unfold upT
      rw [if_neg]
      · exact G.some_ r e
      · rintro he
        exact hs' (by rw [← he, nth_eq e]; exact List.mem_map_of_mem (List.getElem_mem _))
    · have e1 : r = A.length := by omega
      subst e1
      have a1 : nth (A ++ [(s, [v])]) A.length = (s, [v]) := nth_append_new _ _
      have a2 : nth (hs ++ [(⟨q2, 1, c2⟩ : Hd)]) A.length = ⟨q2, 1, c2⟩ := by rw [← G.len]; exact nth_append_new _ _
      rw [a1, a2]; unfold upT; simp [Hd.v]
  · rw [List.map_append, List.mem_append, not_or] at ht
    unfold upT
    rw [if_neg (by simpa using ht.2)]
    exact G.none_ t ht.1
  · rw [hrow, ← encS_append] at S
    simpa using S
/-- a word that was there -/
theorem GS.more {w wr : World} {b g : Nat} {cs : Array Value} {O : List Occ} {A : List Po} {hs : List Hd} {q : Option Addr} {c : Nat} {f : ByteArray → Option Value} (G : GS w wr b g cs O A hs q c f) {r : Nat} (hr : r < A.length) {v : Int} {wn : World} {q2 : Option Addr} {m2 c2 : Nat}
    (S : Sep w wn [.rowsD 3 1 ((rowsP A hs).set r ((⟨q2, m2, c2⟩ : Hd), encI (nth A r).2 ++ encI [v])), .own 9 1 q A.length c (encS (A.map (·.1))), .mapT Try.prog 9 b (O.length + 1) (upT f (nth A r).1 (.slice q2 m2 c2)), .blk g 25 cs]) :
    GS w wn b g cs (O ++ [(v, (nth A r).1)]) (A.set r ((nth A r).1, (nth A r).2 ++ [v])) (hs.set r ⟨q2, m2, c2⟩) q c (upT f (nth A r).1 (.slice q2 m2 c2)) := by
  have hmap : (A.set r ((nth A r).1, (nth A r).2 ++ [v])).map (·.1) = A.map (·.1) := by
    rw [List.map_set]
    have e : (nth A r).1 = (A.map (·.1))[r]'(by simpa using hr) := by rw [nth_eq hr, List.getElem_map]
    show (A.map (·.1)).set r (nth A r).1 = _
    rw [e, List.set_getElem_self]
  refine ⟨by simp [G.len], G.gath.more hr, fun i hi => ?_, fun t ht => ?_, ?_⟩
  · rw [List.length_set] at hi
    by_cases e : i = r
    · subst e
      rw [nth_set_eq hr, nth_set_eq (by rw [G.len]; exact hr)]
      unfold upT; simp [Hd.v]
    · rw [nth_set_ne e hi, nth_set_ne e (by rw [G.len]; exact hi)]
      unfold upT
      rw [if_neg]
      · exact G.some_ i hi
      · rw [nth_eq hi, nth_eq hr]
        intro he
        exact nodup_ne G.gath.nodup (i := i) (j := r) (by simpa using hi) (by simpa using hr) e (by simpa using he)
  · rw [hmap] at ht
    unfold upT
    rw [if_neg]
    · exact G.none_ t ht
    · rintro rfl
      exact ht (by rw [nth_eq hr]; exact List.mem_map_of_mem (List.getElem_mem _))
  · rw [hmap, rowsP_set, List.length_set, encI_append]
    simpa using S
theorem RdP.of_rows {w0 w : World} {Γ : List Pc} (S : Sep w0 w Γ) (j i : Nat) {q : Option Addr} {n c : Nat} {rows : List (Hd × List Value)} {F : List Hd} {L : List Po} (hj : Γ[j]? = some (.rowsD 3 1 rows)) (hi : Γ[i]? = some (.own 69 2 q n c (encPo L F))) (hl : F.length = L.length) (hr : ∀ a, a < L.length → (nth F a, encI (nth L a).2) ∈ rows) : RdP w q n F L := by
  have ho := S.own i hi
  have hr1 := Rd.of_own ho (own_small ho)
  have hn : n = L.length := by have := ho.1; rw [encPo_len L F hl] at this; omega
  refine ⟨hn, hr1.ptr, hr1.small, fun k hk => ?_, fun k hk => ?_, fun k hk => ?_⟩
  · rw [hr1.cells (k * 2) (by omega), (encPo_get L F k hl (by omega)).1]
  · rw [hr1.cells (k * 2 + 1) (by omega), (encPo_get L F k hl (by omega)).2]; rfl
  · have h1 := (S.rowsAt j hj).1 _ (hr k (by omega))
    exact Rd.of_own h1 (own_small h1)
theorem infT : (Try.prog.info? 9).map (fun i => (i.zero, i.size, i.bytes)) = some (some (.string ByteArray.empty), 1, 16) := by kernel_rfl
theorem infJ : (Try.prog.info? 3).map (fun i => (i.zero, i.size, i.bytes)) = some (some (.int .i64 0), 1, 8) := by kernel_rfl
theorem one_int (x : Int) : ∀ u ∈ [Value.int .i64 x], u.oneCell' = true := by intro u hu; simp at hu; subst hu; rfl
theorem one_str (x : ByteArray) : ∀ u ∈ [Value.string x], u.oneCell' = true := by intro u hu; simp at hu; subst hu; rfl
theorem MapT.size {P : Program} {k : TypeId} {b n : Nat} {f : ByteArray → Option Value} {w : World} (h : MapT P k b n f w) {s : ByteArray} {v : Value} (hf : f s = some v) : s.size ≤ 1000000 := by
  obtain ⟨D, _, _, h3⟩ := h
  exact (h3 s v hf).1
theorem isB_check {N : Int} {E : List (Int × Int)} {W : List (List ByteArray)} (h : isB N E W = true) : checkB N E W = true := by
  cases hc : checkB N E W with
  | true => rfl
  | false => rw [isB_chk hc] at h; cases h
/-- the row of a word -/
def hdOf (f : ByteArray → Option Value) (s : ByteArray) : Hd := match f s with | some (.slice p n c) => ⟨p, n, c⟩ | _ => ⟨none, 0, 0⟩
theorem hdOf_eq {f : ByteArray → Option Value} {s : ByteArray} {h : Hd} (e : f s = some h.v) : hdOf f s = h := by unfold hdOf; rw [e]; rfl
theorem GS.look {w wr : World} {b g : Nat} {cs : Array Value} {O : List Occ} {A : List Po} {hs : List Hd} {q : Option Addr} {c : Nat} {f : ByteArray → Option Value} (G : GS w wr b g cs O A hs q c f) {s : ByteArray} (h : s ∈ A.map (·.1)) :
    ∃ r, r < A.length ∧ (nth A r).1 = s ∧ f s = some (nth hs r).v ∧ (nth hs r).n = (plc O s).length ∧ 0 < (nth hs r).n ∧ (nth hs r).n ≤ O.length ∧ s.size ≤ 1000000 := by
  obtain ⟨r, hr, h1, h2⟩ := G.gath.find h
  have hf := G.some_ r hr
  rw [h1] at hf
  have hrow := (G.sep.rowsAt 0 rfl).1 _ (List.mem_of_getElem? (rowsP_get G.len hr))
  have hl : (plc O s).length = (nth hs r).n * 1 := by have h3 := hrow.1; rw [encI_len, h2] at h3; exact h3
  have hp : 0 < (plc O s).length := by
    refine List.length_pos_iff.2 fun e => ?_
    obtain ⟨x, hx, e2⟩ := (G.gath.keys s).1 h
    exact plc_nil.1 e x hx e2
  have := plc_len O s
  exact ⟨r, hr, h1, hf, by omega, by omega, by omega, (G.sep.mapT 2 rfl).size hf⟩
set_option maxRecDepth 100000 in
set_option maxHeartbeats 2000000 in
theorem MakeG_yes (N : Int) (pe : Option Addr) (ne ce : Nat) (pw : Option Addr) (nw cw : Nat) (E : List (Int × Int)) (hs : List Hd) (W : List (List ByteArray)) (w : World) (hE : Rd w 2 pe ne (encE E)) (hW : RdW w pw nw hs W) (hz : SzW W) (hc : isB N E W = true) :
    Calls Try.prog 15 #[.agg #[.int .i64 N, .slice pe ne ce, .slice pw nw cw]] w fun e w' => ∃ q n c hs', e = .returned (.tuple #[.slice q n c, .int .i64 0]) ∧ RdP w' q n hs' (makeP W) ∧ Ext w w' := by
  obtain ⟨i0, hi0, hz0, hz1, hz2⟩ := info_parts infP
  obtain ⟨i1, hi1, hy0, hy1, hy2⟩ := info_parts infT
  obtain ⟨i2, hi2, hx0, hx1, hx2⟩ := info_parts infJ
  obtain ⟨_, hN, hE2, hWN, _, hW8⟩ := checkB_parts (isB_check hc)
  have hW9 := rowOk_len hW8
  have hO := occK_len hW9
  have p2 := hW.row.ptr
  have l2 := hW.nW
  have n2 : nw ≤ 200 := by omega
  have hmm := @run_makeMap Try.prog
  have HI := Lib.hid (fun W1 (h : Ext w W1) => IsG N pe ne ce pw nw cw E hs W W1 (hE.ext h) (hW.ext h) hz)
  rw [hc] at HI
  have HW := Lib.hid hW; clear hW
  have HZ := Lib.hid hz; clear hz
  have L2 := Lib.hid l2; clear l2
  have H9 := Lib.hid hW9; clear hW9
  have HO := Lib.hid hO; clear hO
  clear hW8 hE2 hN hWN hE hc
  have S0 := Lib.hid ((Sep.start w).al #[.int .i64 N, .slice pe ne ce, .slice pw nw cw] 25 w.heap.size rfl)
  go_enter Try.func15, Try.ntmps15
  go_wp2_with (go_at_call 56; go_must (refine (HI.out _ S0.out.ext).mono ?_; rintro e w1 ⟨rfl, hb⟩; have S1 := S0.out.call hb; have c0 := (S1.blk 0 rfl).cell 2; have cz := (S1.blk 0 rfl).lt; have S2 := Lib.hid (((S1.mkmapT Try.prog 9).nilrow 9 1).rowsD0 3 1); clear S1 hb))
  go_loopw [5, 6, 7, 9, 20] (fun ws _ _ _ i wr => ∃ (k : Nat) (q : Option Addr) (c : Nat) (A : List Po) (hs' : List Hd) (f : ByteArray → Option Value), k ≤ nw ∧ i = .int .i64 k ∧ ws = .slice q A.length c ∧ GS w wr w1.heap.size w.heap.size #[.int .i64 N, .slice pe ne ce, .slice pw nw cw] (occK W k) A hs' q c f) (fun _ _ _ _ i _ => nw - (intOf i).toNat)
  case atStart => exact ⟨0, none, 0, [], [], _, Nat.zero_le _, rfl, rfl, ⟨rfl, Gath.nil, fun r h => absurd h (Nat.not_lt_zero r), fun s _ => rfl, S2.out⟩⟩
  case round =>
    clear S2 c0 cz
    obtain ⟨k, q, c, A, hs', f, hk, rfl, rfl, G⟩ := hrel
    by_cases hlt : k < nw
    · have g1 := G.sep.ext.cell (HW.out.row.cH hlt)
      have q1 := (HW.out.each k hlt)
      have p3 := q1.ptr
      have n3 := q1.small
      have l3 := q1.nS
      have n8 : (nth hs k).n ≤ 8 := by rw [l3]; exact H9.out _ (by rw [nth_eq (by rw [← L2.out]; exact hlt)]; exact List.getElem_mem _)
      have nO := HO.out k (by rw [← L2.out]; exact hk)
      have d1 : (0:Int) ≤ k := by omega
      have d2 : (k:Int) < nw := by omega
      have Q1 := Lib.hid q1; clear q1
      have L3 := Lib.hid l3; clear l3
      have NO := Lib.hid nO; clear nO
      have SG := Lib.hid G; clear G
      go_wp2
      go_loopw [5, 9, 27] (fun ws _ i wr => ∃ (j : Nat) (q : Option Addr) (c : Nat) (A : List Po) (hs' : List Hd) (f : ByteArray → Option Value), j ≤ (nth hs k).n ∧ i = .int .i64 j ∧ ws = .slice q A.length c ∧ GS w wr w1.heap.size w.heap.size #[.int .i64 N, .slice pe ne ce, .slice pw nw cw] (occK W k ++ occR k ((nth W k).take j)) A hs' q c f) (fun _ _ i _ => (nth hs k).n - (intOf i).toNat)
      case atStart => exact ⟨0, q, c, A, hs', f, Nat.zero_le _, rfl, rfl, by simpa [occR] using SG.out⟩
      case round =>
        clear SG g1
        obtain ⟨j, q, c, A, hs', f, hj, rfl, rfl, G⟩ := hrel
        by_cases hjt : j < (nth hs k).n
        · have g3 := (Q1.out.ext G.sep.ext).cS hjt
          have hss := HZ.out.at (k := k) (j := j) (by rw [← L2.out]; exact hlt) (by rw [← L3.out]; exact hjt)
          have HT := Lib.hid (occR_take k (nth W k) j (by rw [← L3.out]; exact hjt))
          obtain ⟨s, hsd⟩ : ∃ s, s = nth (nth W k) j := ⟨_, rfl⟩
          rw [← hsd] at g3 hss HT
          clear hsd
          have d3 : (0:Int) ≤ j := by omega
          have d4 : (j:Int) < (nth hs k).n := by omega
          have hol : (occK W k ++ occR k ((nth W k).take j)).length ≤ 1608 := by
            have := NO.out
            rw [List.length_append, occR_len, List.length_take]; omega
          have hAl : A.length ≤ 1608 := by have := G.gath.len; omega
          have hlk := (G.sep.mapT 2 rfl).lookup (t := 66) Try.underlying9 Try.underlying66 (zeroL _) hss
          have HSS := Lib.hid hss; clear hss
          have HOL := Lib.hid hol; clear hol
          by_cases hin : s ∈ A.map (·.1)
          · obtain ⟨r, hr, hrs, hfr, hn1, hn2, hn3, _⟩ := G.look hin
            clear hin
            subst hrs
            rw [hfr] at hlk
            have hRG := rowsP_get G.len hr
            obtain ⟨hd, hhd⟩ : ∃ hd, hd = nth hs' r := ⟨_, rfl⟩
            rw [← hhd] at hfr hn1 hn2 hn3 hRG hlk
            obtain ⟨dp, dn, dc⟩ := hd
            have hlk1 : (Instr.lookup 66 (.map (some w1.heap.size)) (.string (nth A r).1) false).run Try.prog wr = .ok (.slice dp dn dc) wr := hlk
            have dn2 : 0 < dn := hn2
            have dn3 : dn ≤ 1608 := by have h1 : dn ≤ _ := hn3; have h2 := HOL.out; omega
            have dn4 : ¬ (dn:Int) = 0 := by omega
            have dn5 : ¬ dn = 0 := by omega
            clear hlk hn1 hn2 hn3 hfr hhd
            have HRG := Lib.hid hRG; clear hRG
            have HR := Lib.hid hr; clear hr
            have SG := Lib.hid G; clear G
            go_wp2_with (first
              | (at_builtin; go_must (refine wpList_append_rows rfl _ _ _ rfl i2 _ 8 Try.underlying38 hi2 hx0 hx1 hx2 rfl (by omega) (SG.out.sep.junk _) 0 rfl r dp dn dc _ HRG.out rfl _ 1 1 _ rfl (Rd.new _ _ _ 1 1 rfl (by omega)) (one_int _) (by omega) (by omega) ?_; intro q2 c2 w5 S' hsz; have S4 := Lib.hid S'; clear S' hsz))
              | (at_mapUpdate; go_must (refine wpList_updateT_sep rfl _ _ _ _ rfl Try.underlying9 Try.underlying66 rfl S4.out 2 rfl (by have := HOL.out; omega) (nth A r).1 (.slice q2 (dn + 1) c2) rfl rfl HSS.out ?_; intro w6 S' hg; have S5 := Lib.hid S'; clear S' hg)))
            go_roundw
            case rel => exact ⟨j + 1, q, c, A.set r ((nth A r).1, (nth A r).2 ++ [(k:Int)]), hs'.set r ⟨q2, dn + 1, c2⟩, _, by omega, by go_num, by rw [List.length_set], by rw [HT.out, ← List.append_assoc]; exact SG.out.more HR.out S5.out⟩
            case measure => simp [intOf]; omega
          · have hfn := G.none_ s hin
            rw [hfn] at hlk
            have hlk1 : (Instr.lookup 66 (.map (some w1.heap.size)) (.string s) false).run Try.prog wr = .ok (.slice none 0 0) wr := hlk
            clear hlk
            have HFN := Lib.hid hfn; clear hfn
            have HIN := Lib.hid hin; clear hin
            have HRG : Hid ((rowsP A hs' ++ [((⟨none, 0, 0⟩ : Hd), ([] : List Value))])[A.length]? = some (⟨none, 0, 0⟩, [])) := by
              unfold Hid
              have : (rowsP A hs').length = A.length := by unfold rowsP; simp [G.len]
              rw [← this]; simp
            have SG := Lib.hid G; clear G
            have ST1 : True := trivial
            go_wp2_with (first
              | (at_builtin; have ST2 := ST1; go_must (refine wpList_append_sep rfl _ _ _ rfl 9 i1 _ 1 16 Try.underlying35 hi1 hy0 hy1 hy2 rfl (by omega) (SG.out.sep.junk _) 1 q A.length c _ rfl rfl _ 1 1 _ rfl (Rd.new _ _ _ 1 1 rfl (by omega)) (one_str _) (by omega) (by omega) ?_; intro u' e' w4 S' hsz; have hlk := (S'.mapT 2 rfl).lookup (t := 66) Try.underlying9 Try.underlying66 (zeroL _) HSS.out; rw [HFN.out] at hlk; have hlk2 : (Instr.lookup 66 (.map (some w1.heap.size)) (.string s) false).run Try.prog w4 = .ok (.slice none 0 0) w4 := hlk; have S3 := Lib.hid (S'.rowsNil 0 rfl); clear S' hsz ST1 ST2 hlk hlk1))
              | (at_builtin; go_must (refine wpList_append_rows rfl _ _ _ rfl i2 _ 8 Try.underlying38 hi2 hx0 hx1 hx2 rfl (by omega) (S3.out.junk _) 0 rfl A.length none 0 0 [] HRG.out rfl _ 1 1 _ rfl (Rd.new _ _ _ 1 1 rfl (by omega)) (one_int _) (by omega) (by omega) ?_; intro q2 c2 w5 S' hsz; have S4 := Lib.hid S'; clear S' hsz))
              | (at_mapUpdate; go_must (refine wpList_updateT_sep rfl _ _ _ _ rfl Try.underlying9 Try.underlying66 rfl S4.out 2 rfl (by have := HOL.out; omega) s (.slice q2 1 c2) rfl rfl HSS.out ?_; intro w6 S' hg; have S5 := Lib.hid S'; clear S' hg)))
            go_roundw
            case rel => exact ⟨j + 1, u', e', A ++ [(s, [(k:Int)])], hs' ++ [⟨q2, 1, c2⟩], _, by omega, by go_num, by rw [List.length_append]; rfl, by rw [HT.out, ← List.append_assoc]; exact SG.out.new HIN.out S5.out⟩
            case measure => simp [intOf]; omega
        · obtain rfl : j = (nth hs k).n := by omega
          have HT : Hid ((nth W k).take (nth hs k).n = nth W k) := by unfold Hid; rw [List.take_of_length_le (by rw [← L3.out]; omega)]
          rw [HT.out, ← occK_step] at G
          have SG := Lib.hid G; clear G
          go_wp2
          go_roundw
          case rel => exact ⟨k + 1, q, c, A, hs', f, by omega, by go_num, rfl, SG.out⟩
          case measure => simp [intOf]; omega
    · obtain rfl : k = nw := by omega
      have hAl : A.length ≤ 1600 := by
        have h1 := G.gath.len
        have h2 := HO.out k (by rw [← L2.out]; exact hk)
        omega
      rw [show occK W k = occK W W.length from by rw [← L2.out]] at G
      have hK := G.gath.sorted
      obtain ⟨K, hKd⟩ : ∃ K, K = putAll sLess W.flatten := ⟨_, rfl⟩
      have hKm : ∀ s, s ∈ K ↔ s ∈ A.map (·.1) := fun s => by rw [hKd, putAll_mem stoS, ← occK_mem, G.gath.keys]
      have hKl : K.length = A.length := by rw [hKd, ← hK, sortT_len, List.length_map]
      have hL : makeP W = K.map fun s => (s, plc (occK W W.length) s) := by unfold makeP; rw [hKd]
      rw [← hKd] at hK
      clear hKd
      have HK := Lib.hid hK; clear hK
      have HKM := Lib.hid hKm; clear hKm
      have HKL := Lib.hid hKl; clear hKl
      have hLl : (K.map fun s => (s, plc (occK W W.length) s)).length = A.length := by rw [List.length_map, HKL.out]
      have hLk : ∀ i, i < A.length → nth (K.map fun s => (s, plc (occK W W.length) s)) i = (nth K i, plc (occK W W.length) (nth K i)) := fun i hi => by
        rw [nth_eq (by rw [hLl]; exact hi), List.getElem_map, nth_eq (by rw [HKL.out]; exact hi)]
      have hFl : (K.map (hdOf f)).length = A.length := by rw [List.length_map, HKL.out]
      have hFk : ∀ i, i < A.length → nth (K.map (hdOf f)) i = hdOf f (nth K i) := fun i hi => by
        rw [nth_eq (by rw [hFl]; exact hi), List.getElem_map, nth_eq (by rw [HKL.out]; exact hi)]
      have hlook : ∀ i, i < A.length → _ := fun i hi => G.look (s := nth K i) ((HKM.out _).1 (by rw [nth_eq (by rw [HKL.out]; exact hi)]; exact List.getElem_mem _))
      obtain ⟨L, hLd⟩ : ∃ L, L = K.map fun s => (s, plc (occK W W.length) s) := ⟨_, rfl⟩
      obtain ⟨F, hFd⟩ : ∃ F, F = K.map (hdOf f) := ⟨_, rfl⟩
      rw [← hLd] at hLl hLk hL
      rw [← hFd] at hFl hFk
      clear hLd hFd
      have G0 := Lib.hid G
      clear G
      have HMK := Lib.hid hL; clear hL
      have HLL := Lib.hid hLl; clear hLl
      have HLK := Lib.hid hLk; clear hLk
      have HFL := Lib.hid hFl; clear hFl
      have HFK := Lib.hid hFk; clear hFk
      have HLOOK := Lib.hid hlook; clear hlook
      go_wp2_with (go_at_call 57; go_must (refine (SortT_sep G0.out.sep 1 rfl (by omega)).mono ?_; rintro e w2 ⟨rfl, S'⟩; rw [HK.out] at S'; have S3 := Lib.hid (S'.nilrow 69 2); clear S'))
      go_loopw [10, 12, 54] (fun v _ i wr => ∃ (m : Nat) (q1 : Option Addr) (c1 : Nat), m ≤ A.length ∧ i = .int .i64 m ∧ v = .slice q1 m c1 ∧ Sep w wr [.own 69 2 q1 m c1 (encPo (L.take m) (F.take m)), .rowsD 3 1 (rowsP A hs'), .own 9 1 q A.length c (encS K), .mapT Try.prog 9 w1.heap.size (occK W W.length).length f, .blk w.heap.size 25 #[.int .i64 N, .slice pe ne ce, .slice pw k cw]]) (fun _ _ i _ => A.length - (intOf i).toNat)
      case atStart => exact ⟨0, none, 0, Nat.zero_le _, rfl, rfl, S3.out⟩
      case round =>
        clear S3
        obtain ⟨m, q1, c1, hm, rfl, rfl, S⟩ := hrel
        by_cases hmt : m < A.length
        · obtain ⟨r, hr, hrs, hfr, hn1, hn2, hn3, hss⟩ := HLOOK.out m hmt
          have g3 := (S.rd 2 rfl (by omega)).cS hmt
          have p4 := (S.rd 2 rfl (by omega)).ptr
          have hlk := (S.mapT 3 rfl).lookup (t := 66) Try.underlying9 Try.underlying66 (zeroL _) hss
          rw [hfr] at hlk
          have hlk1 : (Instr.lookup 66 (.map (some w1.heap.size)) (.string (nth K m)) false).run Try.prog wr = .ok (.slice (nth hs' r).p (nth hs' r).n (nth hs' r).c) wr := hlk
          have hF := HFK.out m hmt
          rw [hdOf_eq hfr] at hF
          have hL := HLK.out m hmt
          have hT1 := take_succ_nth L m (by rw [HLL.out]; exact hmt)
          have hT2 := take_succ_nth F m (by rw [HFL.out]; exact hmt)
          rw [hL] at hT1
          rw [hF] at hT2
          have hT3 : Hid ((F.take m).length = (L.take m).length) := by unfold Hid; rw [List.length_take, List.length_take, HFL.out, HLL.out]
          have d5 : (0:Int) ≤ m := by omega
          have d6 : (m:Int) < A.length := by omega
          have zb := S.blk 4 rfl
          have HT1 := Lib.hid hT1; clear hT1
          have HT2 := Lib.hid hT2; clear hT2
          have SH := Lib.hid S; clear S
          clear hlk hF hL hfr hn1 hn2 hss hrs zb
          obtain ⟨s, hs1⟩ : ∃ s, s = nth K m := ⟨_, rfl⟩
          rw [← hs1] at g3 hlk1 HT1
          clear hs1
          obtain ⟨hd, hhd⟩ : ∃ hd, hd = nth hs' r := ⟨_, rfl⟩
          rw [← hhd] at hlk1 HT2
          clear hhd
          go_wp2_with (at_builtin; go_must (refine wpList_append_sep rfl _ _ _ rfl 69 i0 _ 2 40 Try.underlying28 hi0 hz0 hz1 hz2 rfl (by omega) (SH.out.junk _) 0 q1 m c1 _ rfl rfl _ 1 1 _ rfl (Rd.new _ _ _ 1 2 rfl (by omega)) (one_P _ _ _ _) (by omega) (by omega) ?_; intro u' e' w4 S' hsz; have S4 := Lib.hid S'; clear S' hsz))
          go_roundw
          case rel => exact ⟨m + 1, u', e', by omega, by go_num, rfl, by rw [HT1.out, HT2.out, encPo_snoc _ _ _ _ hT3.out]; exact S4.out⟩
          case measure => simp [intOf]; omega
        · obtain rfl : m = A.length := by omega
          have hT1 : L.take A.length = L := List.take_of_length_le (by rw [HLL.out]; omega)
          have hT2 : F.take A.length = F := List.take_of_length_le (by rw [HFL.out]; omega)
          rw [hT1, hT2] at S
          have HR := Lib.hid (RdP.of_rows S 1 0 rfl rfl (by rw [HFL.out, HLL.out]) fun a ha => by
            rw [HLL.out] at ha
            obtain ⟨r, hr, hrs, hfr, _⟩ := HLOOK.out a ha
            have hF := HFK.out a ha
            rw [hdOf_eq hfr] at hF
            rw [hF, HLK.out a ha]
            have hm := List.mem_of_getElem? (rowsP_get G0.out.len hr)
            rw [G0.out.gath.at_ (nth A r) (by rw [nth_eq hr]; exact List.getElem_mem _), hrs] at hm
            exact hm)
          have SH := Lib.hid S; clear S
          clear hT1 hT2
          go_wp2
          go_ret2
          exact ⟨q1, A.length, c1, F, rfl, by rw [HMK.out]; exact HR.out, SH.out.ext⟩
theorem MakeG (N : Int) (pe : Option Addr) (ne ce : Nat) (pw : Option Addr) (nw cw : Nat) (E : List (Int × Int)) (hs : List Hd) (W : List (List ByteArray)) (w : World) (hE : Rd w 2 pe ne (encE E)) (hW : RdW w pw nw hs W) (hz : SzW W) :
    Calls Try.prog 15 #[.agg #[.int .i64 N, .slice pe ne ce, .slice pw nw cw]] w fun e w' => (isB N E W = false ∧ e = .returned (.tuple #[.slice none 0 0, .int .i64 20]) ∨ isB N E W = true ∧ ∃ q n c hs', e = .returned (.tuple #[.slice q n c, .int .i64 0]) ∧ RdP w' q n hs' (makeP W)) ∧ Ext w w' := by
  by_cases hc : isB N E W = true
  · exact (MakeG_yes N pe ne ce pw nw cw E hs W w hE hW hz hc).mono fun e w' ⟨q, n, c, hs', h1, h2, h3⟩ => ⟨.inr ⟨hc, q, n, c, hs', h1, h2⟩, h3⟩
  · have hc' : isB N E W = false := by simpa using hc
    exact (MakeG_no N pe ne ce pw nw cw E hs W w hE hW hz hc').mono fun e w' ⟨h1, h2⟩ => ⟨.inl ⟨hc', h1⟩, h2⟩
end Go.Proofs.Ytcjkechemjdboaa
