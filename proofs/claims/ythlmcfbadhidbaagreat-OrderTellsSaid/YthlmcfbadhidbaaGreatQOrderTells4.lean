/- Texts of this claim, one behind the other: Or5, Or6, Out4r, Edg4, Edg4r, Told4, LTell4, LTells11, Open, Post, Open5, Open4. -/
import Derived.ProofKit
import Derived.Deep.Slices
import Derived.Deep.Fields
import Derived.ChangeSame
import Derived.Lib.SmallJoins
import Derived.Below
import Derived.Carry
import Derived.OpenShut
import Derived.Test.YthlmcfbadhidbaaGreatProg
import Derived.Test.YthlmcfbadhidbaaGreatQOrderTells3
/- The document's orders (chapter 11, reference): By. -/
namespace Go.Proofs.YthlmcfbadhidbaaGreat
open Go Go.RowKit
/-- how many ways each of the first k places has -/
def waysV (O R : List Int) (k : Nat) : List Int := (List.range k).map fun v => wayN O R v
theorem waysV_len (O R : List Int) (k : Nat) : (waysV O R k).length = k := by simp [waysV]
theorem waysV_step (O R : List Int) (k : Nat) : waysV O R (k + 1) = waysV O R k ++ [wayN O R k] := by unfold waysV; rw [List.range_succ, List.map_append]; rfl
theorem waysV_nth {O R : List Int} {n v : Nat} (h : v < n) : nth (waysV O R n) v = wayN O R v := by
  rw [nth_eq (by rw [waysV_len]; exact h)]; simp [waysV]
/-- the places of more than 4000 - k ways, and of the first j those of just as many -/
def byI (O R : List Int) (n k j : Nat) : List Int := (byP O R n k).map (·.1) ++ ((List.range j).filter fun v => wayN O R v == 4000 - (k : Int)).map fun v : Nat => (v : Int)
theorem byI_0 (O R : List Int) (n k : Nat) : byI O R n k 0 = (byP O R n k).map (·.1) := by simp [byI]
theorem byI_end (O R : List Int) (n k : Nat) : byI O R n k n = byI O R n (k + 1) 0 := by
  rw [byI_0, byP_step, List.map_append]
  unfold byI
  rw [List.map_map]; rfl
theorem byI_step (O R : List Int) (n k j : Nat) : byI O R n k (j + 1) = if wayN O R j = 4000 - (k : Int) then byI O R n k j ++ [(j : Int)] else byI O R n k j := by
  unfold byI
  rw [List.range_succ, List.filter_append, List.map_append]
  by_cases h : wayN O R j = 4000 - (k : Int)
  · rw [if_pos h]; simp [h]
  · rw [if_neg h]; simp [h]
theorem byI_last (O R : List Int) (n : Nat) : byI O R n 4001 0 = byL O R n := by rw [byI_0]; rfl
theorem byI_len (O R : List Int) (n k j : Nat) (hj : j ≤ n) : (byI O R n k j).length ≤ n := by
  have h : (byI O R n k j).Nodup := by
    have hr := byP_rises O R n (k + 1)
    rw [byP_step] at hr
    have e : byI O R n k j = ((byP O R n k) ++ ((List.range j).filter fun v => wayN O R v == 4000 - (k : Int)).map fun v : Nat => ((v : Int), wayN O R v)).map (·.1) := by
      unfold byI; rw [List.map_append, List.map_map]; rfl
    have hs : ((byP O R n k) ++ ((List.range j).filter fun v => wayN O R v == 4000 - (k : Int)).map fun v : Nat => ((v : Int), wayN O R v)).Sublist ((byP O R n k) ++ ((List.range n).filter fun v => wayN O R v == 4000 - (k : Int)).map fun v : Nat => ((v : Int), wayN O R v)) := by
      refine List.Sublist.append_left ?_ _
      refine List.Sublist.map _ (List.Sublist.filter _ ?_)
      exact List.range_sublist.2 hj
    have h2 := hr.sublist hs
    rw [e]
    refine List.Pairwise.map _ (fun a b h => h) (R := fun a b => a.1 ≠ b.1) ?_
    have hm : ∀ x ∈ (byP O R n k) ++ ((List.range j).filter fun v => wayN O R v == 4000 - (k : Int)).map fun v : Nat => ((v : Int), wayN O R v), ∃ v : Nat, x = ((v : Int), wayN O R v) := fun x hx => by
      rcases List.mem_append.1 hx with hx | hx
      · obtain ⟨v, _, e, _⟩ := byP_mem.1 hx; exact ⟨v, e⟩
      · obtain ⟨v, _, e⟩ := List.mem_map.1 hx; exact ⟨v, e.symm⟩
    refine h2.imp_of_mem fun {a b} ha hb hab e => ?_
    obtain ⟨v, rfl⟩ := hm a ha
    obtain ⟨u, rfl⟩ := hm b hb
    simp only at e
    have : v = u := by omega
    subst this
    rw [stoW.irrefl] at hab; cases hab
  refine nodup_small h fun x hx => ?_
  unfold byI at hx
  rcases List.mem_append.1 hx with hx | hx
  · obtain ⟨y, hy, rfl⟩ := List.mem_map.1 hx
    obtain ⟨v, hv, rfl, _⟩ := byP_mem.1 hy
    simp only; omega
  · obtain ⟨v, hv, rfl⟩ := List.mem_map.1 hx
    have := List.mem_range.1 (List.mem_filter.1 hv).1
    omega
set_option maxRecDepth 100000 in
set_option maxHeartbeats 8000000 in
theorem By11_yes (po : Option Addr) (no co : Nat) (O : List Int) (pt : Option Addr) (nt ct : Nat) (T : List Int) (pr : Option Addr) (nr cr : Nat) (R : List Int) (pv : Option Addr) (nv cv : Nat) (V : List Int) (n : Nat) (w : World) (hO : Rd w 1 po no (encI O)) (hT : Rd w 1 pt nt (encI T)) (hR : Rd w 1 pr nr (encI R)) (hV : Rd w 1 pv nv (encI V)) (hct : nt ≤ ct) (hcv : nv ≤ cv) (hck : checkR O T R V = true) (hno : O.length = n + 1) :
    Calls Tryz.prog 14 #[.agg #[.slice po no co, .slice pt nt ct, .slice pr nr cr, .slice pv nv cv]] w fun e w' => ∃ q c, e = .returned (.tuple #[.slice q (byL O R n).length c, .int .i64 0]) ∧ Sep w w' [.own 3 1 q (byL O R n).length c (encI (byL O R n))] := by
  obtain ⟨i0, hi0, hz0, hz1, hz2⟩ := info_parts infI
  have HC := Lib.hid (fun W1 (h : Ext w W1) => Check04 po no co O pt nt ct T pr nr cr R pv nv cv V W1 (hO.ext h) (hT.ext h) (hR.ext h) (hV.ext h) hct hcv)
  rw [hck] at HC
  have S0 := Lib.hid ((Sep.start w).al #[.slice po no co, .slice pt nt ct, .slice pr nr cr, .slice pv nv cv] 24 w.heap.size rfl)
  have l1 := hO.nI
  have l2 := hR.nI
  have pA := hO.ptr
  have pB := hR.ptr
  have r := offB_parts (halfB_off (checkR_half hck).2.2.1)
  have hn : n ≤ 200 := by omega
  have HW := Lib.hid (fun v (hv : v < n) => ways_bd hck hno hv)
  have HNR : Hid (∀ v, v < n → nr = n + 1) := fun v hv => by have := (ways_bd hck hno hv).1; omega
  obtain rfl : no = n + 1 := by omega
  have HO := Lib.hid hO; clear hO
  have HR := Lib.hid hR; clear hR
  clear hT hV hct hcv hck l1 l2 r hno
  go_enter Tryz.func14, Tryz.ntmps14
  go_wp2_with (go_at_call 43; go_must (refine (HC.out _ S0.out.ext).mono ?_; rintro e w1 ⟨rfl, hb⟩; have S1 := Lib.hid (S0.out.call hb); have xz := (S1.out.blk 0 rfl).lt; have x0 := (S1.out.blk 0 rfl).cell 0; have x1 := (S1.out.blk 0 rfl).cell 1; have x2 := (S1.out.blk 0 rfl).cell 2; have x3 := (S1.out.blk 0 rfl).cell 3; clear hb))
  go_loopw [5, 6] (fun ways i wr => ∃ (k : Nat) (q : Option Addr) (c : Nat), k ≤ n ∧ i = .int .i64 k ∧ ways = .slice q k c ∧ Sep w wr [.own 3 1 q k c (encI (waysV O R k)), .blk w.heap.size 24 #[.slice po (n + 1) co, .slice pt nt ct, .slice pr nr cr, .slice pv nv cv]]) (fun _ i _ => n - (intOf i).toNat)
  case atStart => exact ⟨0, none, 0, Nat.zero_le _, rfl, rfl, S1.out.nilrow _ _⟩
  case round =>
    clear S0 S1 HC x0 x1 x2 x3 xz
    obtain ⟨k, q, c, hk, rfl, rfl, S⟩ := hrel
    have az := (S.blk 1 rfl).lt; have a0 := (S.blk 1 rfl).cell 0; have a1 := (S.blk 1 rfl).cell 1; have a2 := (S.blk 1 rfl).cell 2; have a3 := (S.blk 1 rfl).cell 3
    by_cases hlt : k < n
    · obtain ⟨_, hb1, hb2⟩ := HW.out k hlt
      have hnr := HNR.out k hlt
      have g1 := S.ext.cell (HO.out.cI (k := k) (by omega))
      have g2 := S.ext.cell (HO.out.cI (k := k + 1) (by omega))
      have g3 := S.ext.cell (HR.out.cI (k := k) (by omega))
      have g4 := S.ext.cell (HR.out.cI (k := k + 1) (by omega))
      have e1 : (0:Int) ≤ k := by omega
      have e2 : (k:Int) < (n:Int) + 1 := by omega
      have e3 : (0:Int) ≤ (k:Int) + 1 := by omega
      have e4 : (k:Int) + 1 < (n:Int) + 1 := by omega
      have e5 : (k:Int) < nr := by omega
      have e6 : (k:Int) + 1 < nr := by omega
      have HX := Lib.hid (waysV_step O R k)
      unfold wayN at HX
      generalize nth O k = o0 at *
      generalize nth O (k + 1) = o1 at *
      generalize nth R k = r0 at *
      generalize nth R (k + 1) = r1 at *
      clear hnr
      have SH := Lib.hid S; clear S
      go_wp2
      have u0 := fun x : ExtOf wr => x.ext.cell a0
      have u1 := fun x : ExtOf wr => x.ext.cell a1
      have u2 := fun x : ExtOf wr => x.ext.cell a2
      have u3 := fun x : ExtOf wr => x.ext.cell a3
      have v1 := fun x : ExtOf wr => x.ext.cell g1
      have v2 := fun x : ExtOf wr => x.ext.cell g2
      have v3 := fun x : ExtOf wr => x.ext.cell g3
      have v4 := fun x : ExtOf wr => x.ext.cell g4
      refine wp_region_mix [true, true, true, true, true, true, true, true, true, true, true, true, true, true, true, true, true, true, true, true, true, true, true, true, true, true, false] (fun _ v W => ∃ p, v = .slice p 1 1 ∧ Rd W 1 p 1 (encI [o1 - o0 + r1 - r0])) (by kernel_rfl) (by kernel_rfl) (by kernel_rfl) (fun _ _ _ _ hE ⟨p, h1, h2⟩ => ⟨p, h1, h2.ext hE⟩) ?_
      simp only [nfM]
      repeat (go_big_quiet_step ((fail)))
      refine wpQuiet_nil ⟨⟨fun vs W1 hE hd => ?_, trivial⟩, fun vs W1 hE hkn => ?_⟩
      · simp [putM, execOp, go_sem]
        exact ⟨Rd.oneI _ _ _, Ext.alloc (Below.refl _ _) _⟩
      · obtain ⟨⟨p', hv, RA⟩, _⟩ := hkn
        have HRA := Lib.hid RA; clear RA
        have S1 := Lib.hid (SH.out.call hE)
        simp only [putM, hv, List.length_cons, List.length_nil, Nat.zero_add, Nat.reduceAdd, List.drop_succ_cons, List.drop_zero]
        clear u0 u1 u2 u3 v1 v2 v3 v4 a0 a1 a2 a3 az g1 g2 g3 g4 hv
        go_wp2_with (at_builtin; go_must (refine wpList_append_sep rfl _ _ _ rfl 3 i0 _ 1 8 Tryz.underlying22 hi0 hz0 hz1 hz2 rfl (by omega) S1.out 0 q k c _ rfl rfl p' 1 1 _ rfl HRA.out (one_encI _) (by omega) (by omega) ?_; intro q' c' w' S' hsz; have S2 := Lib.hid S'; clear S'))
        go_roundw
        case rel => exact ⟨k + 1, q', c', by omega, by go_num, rfl, by rw [HX.out, encI_append]; exact S2.out⟩
        case measure => simp [intOf]; omega
    · obtain rfl : k = n := by omega
      have SH := Lib.hid S; clear S
      clear a0 a1 a2 a3 az
      go_wp2
      go_loopw [7, 8, 9] (fun out i _ wr => ∃ (d : Nat) (q2 : Option Addr) (c2 : Nat), d ≤ 4001 ∧ i = .int .i64 (4000 - (d:Int)) ∧ out = .slice q2 (byI O R k d 0).length c2 ∧ Sep w wr [.own 3 1 q2 (byI O R k d 0).length c2 (encI (byI O R k d 0)), .own 3 1 q k c (encI (waysV O R k))]) (fun _ i _ _ => (intOf i + 1).toNat)
      case atStart => exact ⟨0, none, 0, Nat.zero_le _, by go_num, rfl, (SH.out.pick [0] (by decide) rfl).nilrow 3 1⟩
      case round =>
        clear SH
        obtain ⟨d, q2, c2, hd, rfl, rfl, S⟩ := hrel
        by_cases hld : d < 4001
        · have e1 : decide ((0:Int) ≤ 4000 - (d:Int)) = true := by simp; omega
          have e1b : (d:Int) ≤ 4000 := by omega
          have HEN := Lib.hid (byI_end O R k d)
          have SH := Lib.hid S; clear S
          go_wp2
          go_loopw [7, 9] (fun out i wx => ∃ (j : Nat) (q2 : Option Addr) (c2 : Nat), j ≤ k ∧ i = .int .i64 j ∧ out = .slice q2 (byI O R k d j).length c2 ∧ Sep w wx [.own 3 1 q2 (byI O R k d j).length c2 (encI (byI O R k d j)), .own 3 1 q k c (encI (waysV O R k))]) (fun _ i _ => k - (intOf i).toNat)
          case atStart => exact ⟨0, q2, c2, Nat.zero_le _, rfl, rfl, SH.out⟩
          case round =>
            clear SH
            obtain ⟨j, q2, c2, hj, rfl, rfl, S⟩ := hrel
            have hll := byI_len O R k d j hj
            by_cases hlj : j < k
            · have g1 := (S.rdx 1 rfl).cI hlj
              rw [waysV_nth hlj] at g1
              have pq := (S.rdx 1 rfl).ptr
              have f1 : (0:Int) ≤ j := by omega
              have f2 : (j:Int) < k := by omega
              have hst := byI_step O R k d j
              generalize byI O R k d j = X at *
              by_cases hx : wayN O R j = 4000 - (d:Int)
              · rw [if_pos hx] at hst
                have HST := Lib.hid hst
                rw [hx] at g1
                clear hst hx
                have SH := Lib.hid S; clear S
                go_wp2_with (at_builtin; go_must (refine wpList_append_sep rfl _ _ _ rfl 3 i0 _ 1 8 Tryz.underlying22 hi0 hz0 hz1 hz2 rfl (by omega) (SH.out.junk _) 0 q2 X.length c2 _ rfl rfl _ 1 1 _ rfl (Rd.oneI _ _ _) (one_encI _) (by omega) (by omega) ?_; intro q' c' w7 S' hsz; have S6 := Lib.hid S'; clear S' hsz))
                go_roundw
                case rel => exact ⟨j + 1, q', c', by omega, by go_num, by rw [HST.out, List.length_append]; rfl, by rw [HST.out, List.length_append, encI_append]; exact S6.out⟩
                case measure => simp [intOf]; omega
              · rw [if_neg hx] at hst
                have HST := Lib.hid hst
                have f3 : (wayN O R j == 4000 - (d:Int)) = false := by simpa using hx
                generalize wayN O R j = y at *
                clear hst hx
                have SH := Lib.hid S; clear S
                go_wp2
                go_roundw
                case rel => exact ⟨j + 1, q2, c2, by omega, by go_num, by rw [HST.out], by rw [HST.out]; exact SH.out⟩
                case measure => simp [intOf]; omega
            · obtain rfl : j = k := by omega
              rw [HEN.out] at S ⊢
              obtain ⟨X, hX⟩ : ∃ X, byI O R j (d + 1) 0 = X := ⟨_, rfl⟩
              rw [hX] at S
              have HX := Lib.hid hX
              clear hX
              have SH := Lib.hid S; clear S
              go_wp2
              go_roundw
              case rel => exact ⟨d + 1, q2, c2, by omega, by go_num, by rw [HX.out], by rw [HX.out]; exact SH.out⟩
              case measure => simp [intOf]; omega
        · obtain rfl : d = 4001 := by omega
          rw [byI_last] at S ⊢
          obtain ⟨X, hX⟩ : ∃ X, byL O R k = X := ⟨_, rfl⟩
          rw [hX] at S
          have HX := Lib.hid hX
          clear hX
          have SH := Lib.hid S; clear S
          go_wp2
          go_ret2
          exact ⟨q2, c2, by rw [HX.out]; rfl, by rw [HX.out]; exact SH.out.pick [0] (by decide) rfl⟩
/-- whatever is asked -/
theorem By11 (po : Option Addr) (no co : Nat) (O : List Int) (pt : Option Addr) (nt ct : Nat) (T : List Int) (pr : Option Addr) (nr cr : Nat) (R : List Int) (pv : Option Addr) (nv cv : Nat) (V : List Int) (w : World) (hO : Rd w 1 po no (encI O)) (hT : Rd w 1 pt nt (encI T)) (hR : Rd w 1 pr nr (encI R)) (hV : Rd w 1 pv nv (encI V)) (hct : nt ≤ ct) (hcv : nv ≤ cv) : Calls Tryz.prog 14 #[.agg #[.slice po no co, .slice pt nt ct, .slice pr nr cr, .slice pv nv cv]] w fun e w' => ∃ q c, e = .returned (.tuple #[.slice q (byR (checkR O T R V) O R).length c, .int .i64 (byC (checkR O T R V))]) ∧ Sep w w' [.own 3 1 q (byR (checkR O T R V) O R).length c (encI (byR (checkR O T R V) O R))] := by
  cases hck : checkR O T R V with
  | true =>
    have r := offB_parts (halfB_off (checkR_half hck).2.2.1)
    have e : byR true O R = byL O R (O.length - 1) := rfl
    rw [e]
    exact By11_yes po no co O pt nt ct T pr nr cr R pv nv cv V (O.length - 1) w hO hT hR hV hct hcv hck (by omega)
  | false =>
    have HC := Lib.hid (fun W1 (h : Ext w W1) => Check04 po no co O pt nt ct T pr nr cr R pv nv cv V W1 (hO.ext h) (hT.ext h) (hR.ext h) (hV.ext h) hct hcv)
    rw [hck] at HC
    have S0 := Lib.hid ((Sep.start w).al #[.slice po no co, .slice pt nt ct, .slice pr nr cr, .slice pv nv cv] 24 w.heap.size rfl)
    clear hO hT hR hV hct hcv hck
    go_enter Tryz.func14, Tryz.ntmps14
    go_wp2_with (go_at_call 43; go_must (refine (HC.out _ S0.out.ext).mono ?_; rintro e w1 ⟨rfl, hb⟩; have S1 := Lib.hid (S0.out.call hb); have xz := (S1.out.blk 0 rfl).lt; have x0 := (S1.out.blk 0 rfl).cell 0; have x1 := (S1.out.blk 0 rfl).cell 1; have x2 := (S1.out.blk 0 rfl).cell 2; have x3 := (S1.out.blk 0 rfl).cell 3; clear hb))
    go_ret2
    exact ⟨none, 0, rfl, ((Sep.start w).call S1.out.ext).nilrow _ _⟩
end Go.Proofs.YthlmcfbadhidbaaGreat
/- The document's orders (chapter 11, reference): Nth. -/
namespace Go.Proofs.YthlmcfbadhidbaaGreat
open Go Go.RowKit
theorem eraseIdx_td (L : List Int) (d : Nat) : L.eraseIdx d = L.take d ++ L.drop (d + 1) := List.eraseIdx_eq_take_drop_succ L d
theorem rd_take {w : World} {q : Option Addr} {n d : Nat} {L : List Int} (h : Rd w 1 q n (encI L)) (hd : d ≤ n) : Rd w 1 q d (encI (L.take d)) := by
  have := h.take (k := d) hd
  rwa [encI_take] at this
theorem rd_cut {w : World} {q : Option Addr} {n d c : Nat} {L : List Int} (h : Rd w 1 q n (encI L)) (hd : d ≤ n) (hc : n ≤ c) : Rd w 1 (cutp q c d 1) (n - d) (encI (L.drop d)) := by
  have hl := h.nI
  have := h.cut (l := d) (h := n) (c := c) hd (Nat.le_refl _) hc
  rw [encI_drop, encI_take, List.take_of_length_le (by rw [List.length_drop]; omega)] at this
  exact this
set_option maxRecDepth 100000 in
set_option maxHeartbeats 8000000 in
theorem Nth11 (n k : Int) (w : World) (hkm : k ≤ 9223372036854775807) : Calls Tryz.prog 18 #[.int .i64 n, .int .i64 k] w fun e w' => ∃ q c, e = .returned (.tuple #[.slice q (nthV n k).length c, .int .i64 (nthC n k)]) ∧ Sep w w' [.own 3 1 q (nthV n k).length c (encI (nthV n k))] := by
  obtain ⟨i0, hi0, hz0, hz1, hz2⟩ := info_parts infI
  by_cases hn : n < 0
  · have e : nthOk n k = false := by unfold nthOk; rw [decide_eq_false (by omega)]; rfl
    rw [nthV_no e, nthC_no e]
    have c1 : decide (n < 0) = true := by simpa using hn
    clear hn e
    go_enter Tryz.func18, Tryz.ntmps18
    go_wp2
    go_ret2
    exact ⟨none, 0, rfl, (Sep.start w).nilrow _ _⟩
  · have c1 : decide (n < 0) = false := by simpa using hn
    by_cases hn2 : 12 < n
    · have e : nthOk n k = false := by unfold nthOk; rw [decide_eq_false (show ¬ n ≤ 12 by omega)]; simp
      rw [nthV_no e, nthC_no e]
      have c2 : decide (12 < n) = true := by simpa using hn2
      clear hn hn2 e
      go_enter Tryz.func18, Tryz.ntmps18
      go_wp2
      go_ret2
      exact ⟨none, 0, rfl, (Sep.start w).nilrow _ _⟩
    · have c2 : decide (12 < n) = false := by simpa using hn2
      by_cases hk : k < 0
      · have e : nthOk n k = false := by unfold nthOk; rw [decide_eq_false (show ¬ 0 ≤ k by omega)]; simp
        rw [nthV_no e, nthC_no e]
        have c3 : decide (k < 0) = true := by simpa using hk
        clear hn hn2 hk e
        go_enter Tryz.func18, Tryz.ntmps18
        go_wp2
        go_ret2
        exact ⟨none, 0, rfl, (Sep.start w).nilrow _ _⟩
      · obtain ⟨a, rfl⟩ : ∃ a : Nat, n = a := ⟨n.toNat, by omega⟩
        obtain ⟨b, rfl⟩ : ∃ b : Nat, k = b := ⟨k.toNat, by omega⟩
        have c3 : decide ((b:Int) < 0) = false := by simp
        have c4 : decide ((a:Int) < 0) = false := by simp
        have ha : a ≤ 12 := by omega
        have ho : nthOk (a:Int) (b:Int) = decide (b < fac a) := by
          unfold nthOk
          rw [decide_eq_true (show (0:Int) ≤ a by omega), decide_eq_true (show (a:Int) ≤ 12 by omega), decide_eq_true (show (0:Int) ≤ b by omega), Int.toNat_natCast]
          simp
        have HMY := Lib.hid (fun W => many11 a W ha)
        have hfa : fac a ≤ 479001600 := by have := fac_mono (m := a) (n := 12) ha; rwa [fac_12] at this
        by_cases hb : b < fac a
        · have hf : nthOk (a:Int) (b:Int) = true := by rw [ho]; exact decide_eq_true hb
          rw [nthV_yes hf, nthC_yes hf]
          have hnl : (nthI a b).length = a := nthA_len _ _ _
          rw [hnl]
          have c5 : decide (((fac a : Nat) : Int) ≤ b) = false := by simp; omega
          have c6 : decide (fac a ≤ b) = false := by simp; omega
          have HB := Lib.hid hb
          clear ho hn hn2 hk c1 hf hnl hb
          obtain ⟨NI, hNI⟩ : ∃ x, nthI a b = x := ⟨_, rfl⟩
          rw [hNI]
          have HNI := Lib.hid hNI
          clear hNI
          generalize hfe : fac a = fa at *
          have HFE := Lib.hid hfe
          clear hfe
          go_enter Tryz.func18, Tryz.ntmps18
          go_wp2_with (go_at_call 45; go_must (refine (HMY.out _).mono ?_; rintro e w1 ⟨rfl, hb1⟩; have S1 := Lib.hid ((Sep.start w).call hb1); clear hb1))
          go_loopw [6, 7] (fun v6 i wr => ∃ (j : Nat) (q : Option Addr) (c : Nat), j ≤ a ∧ i = .int .i64 j ∧ v6 = .slice q j c ∧ Sep w wr [.own 3 1 q j c (encI (rangeI j))]) (fun _ i _ => a - (intOf i).toNat)
          case atStart => exact ⟨0, none, 0, Nat.zero_le _, rfl, rfl, S1.out.nilrow 3 1⟩
          case round =>
            clear S1
            obtain ⟨j, q, c, hj, rfl, rfl, S⟩ := hrel
            by_cases hlj : j < a
            · have d2 : decide ((j:Int) < a) = true := by simp; omega
              have HRS := Lib.hid (rangeI_step j)
              have SH := Lib.hid S; clear S
              go_wp2_with (at_builtin; go_must (refine wpList_append_sep rfl _ _ _ rfl 3 i0 _ 1 8 Tryz.underlying22 hi0 hz0 hz1 hz2 rfl (by omega) (SH.out.junk _) 0 q j c _ rfl rfl _ 1 1 _ rfl (Rd.oneI _ _ _) (one_encI _) (by omega) (by omega) ?_; intro q' c' w7 S' hsz; have S6 := Lib.hid S'; clear S' hsz))
              go_roundw
              case rel => exact ⟨j + 1, q', c', by omega, by go_num, rfl, by rw [HRS.out, encI_append]; exact S6.out⟩
              case measure => simp [intOf]; omega
            · obtain rfl : j = a := by omega
              have SH := Lib.hid S; clear S
              go_wp2
              go_loopw [1, 6, 8, 9, 10, 11] (fun v1 v6 v8 _ _ _ wr => ∃ (t kk : Nat) (out L : List Int) (q1 : Option Addr) (c1 : Nat) (q2 : Option Addr) (c2 : Nat), t ≤ j ∧ v1 = .int .i64 kk ∧ v6 = .slice q1 (j - t) c1 ∧ v8 = .slice q2 t c2 ∧ Hid (out.length = t ∧ L.length = j - t ∧ kk < fac (j - t) ∧ out ++ nthA (j - t) L kk = nthI j b) ∧ Sep w wr [.own 3 1 q2 t c2 (encI out), .own 3 1 q1 (j - t) c1 (encI L)]) (fun _ v6 _ _ _ _ _ => (match v6 with | .slice _ m _ => m | _ => 0))
              case atStart => exact ⟨0, b, [], rangeI j, q, c, none, 0, Nat.zero_le _, rfl, rfl, rfl, ⟨rfl, rangeI_len j, by rw [Nat.sub_zero, HFE.out]; exact HB.out, rfl⟩, SH.out.nilrow 3 1⟩
              case round =>
                clear SH
                obtain ⟨t, kk, out, L, q1, c1', q2, c2', ht, rfl, rfl, rfl, hI, S⟩ := hrel
                by_cases hlt2 : t < j
                · obtain ⟨m, hm⟩ : ∃ m, j - t = m + 1 := ⟨j - t - 1, by omega⟩
                  rw [hm] at hI S ⊢
                  obtain ⟨i1, i2, i4, i3⟩ := hI.out
                  have hdm := dig_lt i4
                  have hkm2 : kk % fac m < fac m := Nat.mod_lt _ (fac_pos m)
                  rw [nthA] at i3
                  have hm12 : m ≤ 12 := by omega
                  have ht12 : t ≤ 12 := by omega
                  have hfm : fac m ≤ 479001600 := by have := fac_mono (m := m) (n := 12) hm12; rwa [fac_12] at this
                  have hkb : kk ≤ 479001600 := by have := fac_mono (m := m + 1) (n := 12) (by omega); rw [fac_12] at this; omega
                  have hfp := fac_pos m
                  have HM2 := Lib.hid (fun W => many11 m W hm12)
                  have e1 : Int.tdiv (kk:Int) ((fac m : Nat) : Int) = ((kk / fac m : Nat) : Int) := (Int.ofNat_tdiv kk (fac m)).symm
                  have e2 : Int.tmod (kk:Int) ((fac m : Nat) : Int) = ((kk % fac m : Nat) : Int) := (Int.ofNat_tmod kk (fac m)).symm
                  have hk2b : kk % fac m ≤ 479001600 := by omega
                  have HK2 := Lib.hid hkm2
                  have HFM : Hid (∃ y, y = fac m) := ⟨_, rfl⟩
                  obtain ⟨d, hd⟩ : ∃ d, kk / fac m = d := ⟨_, rfl⟩
                  obtain ⟨k2, hk2⟩ : ∃ k2, kk % fac m = k2 := ⟨_, rfl⟩
                  rw [hd] at hdm i3 e1
                  rw [hk2] at HK2 i3 e2 hk2b
                  have HKF : Hid (∀ z, z = m → k2 < fac z) := fun z hz => by subst hz; exact HK2.out
                  clear hd hk2 hkm2 HK2 HFM
                  have hd12 : d ≤ 12 := by omega
                  have g2 := (S.rdx 1 rfl).cI (k := d) (by omega)
                  have pq1 := (S.rdx 1 rfl).ptr
                  have f1 : (0:Int) ≤ d := by omega
                  have f2 : (d:Int) < (m:Int) + 1 := by omega
                  have f3 : (d:Int) + 1 ≤ (m:Int) + 1 := by omega
                  have f4 : ((fac m : Nat) : Int) ≠ 0 := by omega
                  have f5 : (((fac m : Nat) : Int) == 0) = false := by simp; omega
                  have hcp := own_cap (S.own 1 rfl)
                  have I1 := Lib.hid i1
                  have I2 := Lib.hid i2
                  have I3 := Lib.hid i3
                  have HM := Lib.hid hm
                  generalize fac m = fm at *
                  generalize nth L d = x at *
                  clear i1 i2 i3 i4 hI hm hfp
                  have SH := Lib.hid S; clear S
                  go_wp2_with (first
                    | (at_builtin; have _t := S4; go_must (refine wpList_append_sep rfl _ _ _ rfl 3 i0 _ 1 8 Tryz.underlying22 hi0 hz0 hz1 hz2 rfl (by omega) S4.out 0 q8 d c8 _ rfl rfl _ _ _ (encI (L.drop (d + 1))) rfl (by have hz := rd_cut (d := d + 1) (S4.out.rdx 2 rfl) (by omega) hcp; simpa [cutp, Addr.add] using hz) (one_encI _) (by omega) (by omega) ?_; intro q9 c9 w9 S' hsz; (try simp only [Nat.zero_add, List.nil_append] at S'); have S5 := Lib.hid S'; clear S' hsz))
                    | (at_builtin; have _t := S3; go_must (refine wpList_append_sep rfl _ _ _ rfl 3 i0 _ 1 8 Tryz.underlying22 hi0 hz0 hz1 hz2 rfl (by omega) (S3.out.nilrow 3 1) 0 none 0 0 _ rfl rfl q1 d c1' _ rfl (rd_take (S3.out.rdx 1 rfl) (by omega)) (one_encI _) (by omega) (by omega) ?_; intro q8 c8 w8 S' hsz; (try simp only [Nat.zero_add, List.nil_append] at S'); have S4 := Lib.hid S'; clear S' hsz))
                    | (at_builtin; have _t := S2; go_must (refine wpList_append_sep rfl _ _ _ rfl 3 i0 _ 1 8 Tryz.underlying22 hi0 hz0 hz1 hz2 rfl (by omega) (S2.out.junk _) 0 q2 t c2' _ rfl rfl _ 1 1 _ rfl (Rd.oneI _ _ _) (one_encI _) (by omega) (by omega) ?_; intro q7 c7 w7 S' hsz; have S3 := Lib.hid S'; clear S' hsz))
                    | (go_at_call 45; go_must (refine (HM2.out _).mono ?_; rintro e w2 ⟨rfl, hb2⟩; have S2 := Lib.hid (SH.out.call hb2); have g3 := hb2.cell g2; clear hb2)))
                  have z1 := HM.out
                  have z2 := I1.out
                  have z3 := I2.out
                  have z4 : j - (t + 1) = m := by omega
                  have z5 : d + (m - d) = m := by omega
                  have T := S5.out.pick [1, 0] (by decide) rfl
                  rw [z5, ← encI_append, ← encI_append, ← eraseIdx_td] at T
                  refine ⟨⟨t + 1, k2, out ++ [x], L.eraseIdx d, q9, c9, q7, c7, by omega, rfl, by rw [z4, z5], rfl, ⟨by rw [List.length_append, z2]; rfl, by rw [List.length_eraseIdx_of_lt (by omega)]; omega, by rw [z4]; exact HKF.out m rfl, by rw [z4, List.append_assoc]; exact I3.out⟩, by rw [z4]; exact T⟩, ?_⟩
                  show d + (m - d) < m + 1
                  omega
                · obtain rfl : t = j := by omega
                  obtain ⟨i1, i2, i4, i3⟩ := hI.out
                  rw [Nat.sub_self, nthA, List.append_nil] at i3
                  have e0 : t - t = 0 := Nat.sub_self t
                  rw [e0]
                  have I3 := Lib.hid (i3.trans HNI.out)
                  clear i1 i2 i3 i4 hI
                  have SH := Lib.hid S; clear S
                  go_wp2
                  go_ret2
                  exact ⟨q2, c2', rfl, by rw [← I3.out]; exact SH.out.pick [0] (by decide) rfl⟩
        · have hf : nthOk (a:Int) (b:Int) = false := by rw [ho]; exact decide_eq_false hb
          rw [nthV_no hf, nthC_no hf]
          have c5 : decide (((fac a : Nat) : Int) ≤ b) = true := by simp; omega
          have c6 : decide (fac a ≤ b) = true := by simp; omega
          clear ho hn hn2 hk c1 hf hb
          generalize fac a = fa at *
          go_enter Tryz.func18, Tryz.ntmps18
          go_wp2_with (go_at_call 45; go_must (refine (HMY.out _).mono ?_; rintro e w1 ⟨rfl, hb1⟩; have S1 := Lib.hid ((Sep.start w).call hb1); clear hb1))
          go_ret2
          exact ⟨none, 0, rfl, S1.out.nilrow _ _⟩
end Go.Proofs.YthlmcfbadhidbaaGreat
/- The reference's Out, In, Has, Own of rows. -/
namespace Go.Proofs.YthlmcfbadhidbaaGreat
open Go Go.RowKit
end Go.Proofs.YthlmcfbadhidbaaGreat
/- The program's Edges of rows. -/
namespace Go.Proofs.YthlmcfbadhidbaaGreat
open Go Go.RowKit Go.Shelf Go.Lib
attribute [local go_sem] Oper.semAt_some
def edgL (b : Bool) (O T : List Int) : List (Int × Int) := if b = true then pairs O T else []
def edgC (b : Bool) : Int := if b = true then 0 else 40
def edgPc (a b : Nat) (po : Option Addr) (no co : Nat) (pt : Option Addr) (nt ct : Nat) (cs : Array Value) (q : Option Addr) (c : Nat) (l : List (Int × Int)) : List Pc :=
  [.blk (b + 1 + 1) 22 #[.slice pt nt ct], .blk (b + 1) 22 #[.slice po no co], .blk b 75 #[.slice q l.length c], .blk a 24 cs, .own 74 2 q l.length c (encE l)]
theorem edgPc_cells (a b : Nat) (po : Option Addr) (no co : Nat) (pt : Option Addr) (nt ct : Nat) (cs : Array Value) (q : Option Addr) (c : Nat) (l : List (Int × Int)) : ∀ x ∈ edgPc a b po no co pt nt ct cs q c l, x.cells :=
  cells_all fun x hx => by simp [edgPc] at hx; rcases hx with h | h | h | h | h <;> first | exact .inl ⟨_, _, _, h⟩ | exact .inr ⟨_, _, _, _, _, _, h⟩
theorem pairs_len {O T : List Int} (h : OffOk O T) (h0 : nth O 0 = 0) : ∀ k, k < O.length → (pairsK O T k).length = (nth O k).toNat
  | 0, _ => by rw [h0]; rfl
  | k + 1, hk => by
    rw [pairsK_step, List.length_append, pairs_len h h0 k (by omega)]
    unfold rowX
    rw [List.length_map, rowL_len h hk]
    have := h.le k hk
    have := h.lo k (by omega)
    omega
end Go.Proofs.YthlmcfbadhidbaaGreat
/- The reference's Edges and Own of rows. -/
namespace Go.Proofs.YthlmcfbadhidbaaGreat
open Go Go.RowKit
def OwnQ (b : Nat) (no nt nr nv : Nat) (O T R V : List Int) (i : Nat) (v : Value) (W : World) : Prop :=
  match i with
  | 2 => ∃ q d, v = .slice q no d ∧ W.ownsRow b 3 1 (.slice q no d) no (encI O)
  | 5 => ∃ q d, v = .slice q nt d ∧ W.ownsRow b 3 1 (.slice q nt d) nt (encI T)
  | 8 => ∃ q d, v = .slice q nr d ∧ W.ownsRow b 3 1 (.slice q nr d) nr (encI R)
  | 11 => ∃ q d, v = .slice q nv d ∧ W.ownsRow b 3 1 (.slice q nv d) nv (encI V)
  | _ => True
theorem OwnQ_mono {b no nt nr nv : Nat} {O T R V : List Int} : ∀ i v W W', Ext W W' → OwnQ b no nt nr nv O T R V i v W → OwnQ b no nt nr nv O T R V i v W' := by
  intro i v W W' he h
  unfold OwnQ at *
  split at h <;> first | trivial | (obtain ⟨q, c, h1, h2⟩ := h; exact ⟨q, c, h1, he.own h2⟩)
set_option maxRecDepth 100000 in
set_option maxHeartbeats 4000000 in
theorem Own04 (po : Option Addr) (no co : Nat) (O : List Int) (pt : Option Addr) (nt ct : Nat) (T : List Int) (pr : Option Addr) (nr cr : Nat) (R : List Int) (pv : Option Addr) (nv cv : Nat) (V : List Int) (w : World) (hO : Rd w 1 po no (encI O)) (hT : Rd w 1 pt nt (encI T)) (hR : Rd w 1 pr nr (encI R)) (hV : Rd w 1 pv nv (encI V)) (b1 : no ≤ 100000) (b2 : nt ≤ 100000) (b3 : nr ≤ 100000) (b4 : nv ≤ 100000) :
    Calls Tryz.prog 11 #[.agg #[.slice po no co, .slice pt nt ct, .slice pr nr cr, .slice pv nv cv]] w fun e w' => ∃ qo do' qt dt qr dr qv dv, e = .returned (.agg #[.slice qo no do', .slice qt nt dt, .slice qr nr dr, .slice qv nv dv]) ∧ R4 w' qo no qt nt qr nr qv nv O T R V ∧ nt ≤ dt ∧ nv ≤ dv ∧ Ext w w' := by
  have HO := Lib.hid (fun W1 (h : Ext w W1) => OwnI01 po no co O W1 (hO.ext h) (by omega))
  have HT := Lib.hid (fun W1 (h : Ext w W1) => OwnI01 pt nt ct T W1 (hT.ext h) (by omega))
  have HR := Lib.hid (fun W1 (h : Ext w W1) => OwnI01 pr nr cr R W1 (hR.ext h) (by omega))
  have HV := Lib.hid (fun W1 (h : Ext w W1) => OwnI01 pv nv cv V W1 (hV.ext h) (by omega))
  have D1 := Lib.hid b1
  have D2 := Lib.hid b2
  have D3 := Lib.hid b3
  have D4 := Lib.hid b4
  obtain ⟨X, hX⟩ : ∃ X, X = (w.alloc (.cells #[.slice po no co, .slice pt nt ct, .slice pr nr cr, .slice pv nv cv] 24)).alloc (.cells #[.slice none 0 0, .slice none 0 0, .slice none 0 0, .slice none 0 0] 24) := ⟨_, rfl⟩
  have S0 := Lib.hid (hX ▸ (((Sep.start w).al #[.slice po no co, .slice pt nt ct, .slice pr nr cr, .slice pv nv cv] 24 w.heap.size rfl).al #[.slice none 0 0, .slice none 0 0, .slice none 0 0, .slice none 0 0] 24 (w.heap.size + 1) (by simp)) : Sep w X _)
  clear hO hT hR hV b1 b2 b3 b4
  go_enter Tryz.func11, Tryz.ntmps11
  go_wp2
  rw [← hX]
  clear hX
  have az := (S0.out.blk 1 rfl).lt; have a0 := (S0.out.blk 1 rfl).cell 0; have a1 := (S0.out.blk 1 rfl).cell 1; have a2 := (S0.out.blk 1 rfl).cell 2; have a3 := (S0.out.blk 1 rfl).cell 3
  have x0 := fun x : ExtOf X => x.ext.cell a0
  have x1 := fun x : ExtOf X => x.ext.cell a1
  have x2 := fun x : ExtOf X => x.ext.cell a2
  have x3 := fun x : ExtOf X => x.ext.cell a3
  refine wp_region_mix [true, true, false, true, true, false, true, true, false, true, true, false] (OwnQ X.heap.size no nt nr nv O T R V) (by kernel_rfl) (by kernel_rfl) (by kernel_rfl) OwnQ_mono ?_
  simp only [nfM]
  repeat (go_big_quiet_step ((fail)))
  refine wpQuiet_nil ⟨⟨fun vs W1 hE hd => ?_, fun vs W1 hE hd => ?_, fun vs W1 hE hd => ?_, fun vs W1 hE hd => ?_, trivial⟩, fun vs W1 hE hkn => ?_⟩
  · simp [putM, go_sem]
    exact (HO.out _ (Ext.trans S0.out.ext hE)).mono fun e w' ⟨q, d, h1, S⟩ => ⟨_, h1, ⟨q, d, rfl, own_base (S.own 0 rfl) hE.size⟩, S.ext⟩
  · simp [putM, go_sem]
    exact (HT.out _ (Ext.trans S0.out.ext hE)).mono fun e w' ⟨q, d, h1, S⟩ => ⟨_, h1, ⟨q, d, rfl, own_base (S.own 0 rfl) hE.size⟩, S.ext⟩
  · simp [putM, go_sem]
    exact (HR.out _ (Ext.trans S0.out.ext hE)).mono fun e w' ⟨q, d, h1, S⟩ => ⟨_, h1, ⟨q, d, rfl, own_base (S.own 0 rfl) hE.size⟩, S.ext⟩
  · simp [putM, go_sem]
    exact (HV.out _ (Ext.trans S0.out.ext hE)).mono fun e w' ⟨q, d, h1, S⟩ => ⟨_, h1, ⟨q, d, rfl, own_base (S.own 0 rfl) hE.size⟩, S.ext⟩
  obtain ⟨⟨qo, do', k1, r1⟩, ⟨qt, dt, k2, r2⟩, ⟨qr, dr, k3, r3⟩, ⟨qv, dv, k4, r4⟩, _⟩ := hkn
  have c2 := own_cap r2
  have c4 := own_cap r4
  have SY := Lib.hid (S0.out.call hE)
  have Y1 := Lib.hid (S0.out.fresh hE r1 (Nat.le_refl _))
  have Y2 := Lib.hid (S0.out.fresh hE r2 (Nat.le_refl _))
  have Y3 := Lib.hid (S0.out.fresh hE r3 (Nat.le_refl _))
  have Y4 := Lib.hid (S0.out.fresh hE r4 (Nat.le_refl _))
  simp only [putM, k1, k2, k3, k4, List.length_cons, List.length_nil, Nat.zero_add, Nat.reduceAdd, List.drop_succ_cons, List.drop_zero]
  clear x0 x1 x2 x3 k1 k2 k3 k4 hE r1 r2 r3 r4 a0 a1 a2 a3 az
  have uz := (SY.out.blk 0 rfl).lt; have u0 := (SY.out.blk 0 rfl).cell 0; have u1 := (SY.out.blk 0 rfl).cell 1; have u2 := (SY.out.blk 0 rfl).cell 2; have u3 := (SY.out.blk 0 rfl).cell 3
  have uf0 := (SY.out.blk 0 rfl).frozen 0
  have uf1 := (SY.out.blk 0 rfl).frozen 1
  have uf2 := (SY.out.blk 0 rfl).frozen 2
  have uf3 := (SY.out.blk 0 rfl).frozen 3
  go_wp2
  have S7 := (((SY.out.set 0 rfl 0 (.slice qo no do')).set 0 rfl 1 (.slice qt nt dt)).set 0 rfl 2 (.slice qr nr dr)).set 0 rfl 3 (.slice qv nv dv)
  have b0 := (S7.blk 0 rfl).cell 0
  have b1 := (S7.blk 0 rfl).cell 1
  have b2 := (S7.blk 0 rfl).cell 2
  have b3 := (S7.blk 0 rfl).cell 3
  refine bodyPost_ret (v := .agg #[.slice qo no do', .slice qt nt dt, .slice qr nr dr, .slice qv nv dv]) (by simp [results, Tryz.results11, go_sem, b0, b1, b2, b3, Tryz.sizeOf24, Tryz.isAgg24]) rfl ⟨qo, do', qt, dt, qr, dr, qv, dv, rfl, ?_, c2, c4, S7.ext⟩
  exact ⟨((((Y1.out.set 1 rfl 0 (.slice qo no do')).set 1 rfl 1 (.slice qt nt dt)).set 1 rfl 2 (.slice qr nr dr)).set 1 rfl 3 (.slice qv nv dv)).rd 0 rfl (by have := D1.out; omega), ((((Y2.out.set 1 rfl 0 (.slice qo no do')).set 1 rfl 1 (.slice qt nt dt)).set 1 rfl 2 (.slice qr nr dr)).set 1 rfl 3 (.slice qv nv dv)).rd 0 rfl (by have := D2.out; omega), ((((Y3.out.set 1 rfl 0 (.slice qo no do')).set 1 rfl 1 (.slice qt nt dt)).set 1 rfl 2 (.slice qr nr dr)).set 1 rfl 3 (.slice qv nv dv)).rd 0 rfl (by have := D3.out; omega), ((((Y4.out.set 1 rfl 0 (.slice qo no do')).set 1 rfl 1 (.slice qt nt dt)).set 1 rfl 2 (.slice qr nr dr)).set 1 rfl 3 (.slice qv nv dv)).rd 0 rfl (by have := D4.out; omega)⟩
set_option maxRecDepth 100000 in
set_option maxHeartbeats 8000000 in
theorem Edges04_yes (po : Option Addr) (no co : Nat) (O : List Int) (pt : Option Addr) (nt ct : Nat) (T : List Int) (pr : Option Addr) (nr cr : Nat) (R : List Int) (pv : Option Addr) (nv cv : Nat) (V : List Int) (w : World) (hO : Rd w 1 po no (encI O)) (hT : Rd w 1 pt nt (encI T)) (hR : Rd w 1 pr nr (encI R)) (hV : Rd w 1 pv nv (encI V)) (hct : nt ≤ ct) (hcv : nv ≤ cv) (hck : checkR O T R V = true) :
    Calls Tryz.prog 110 #[.agg #[.slice po no co, .slice pt nt ct, .slice pr nr cr, .slice pv nv cv]] w fun e w' => ∃ q c, e = .returned (.tuple #[.slice q (edgL true O T).length c, .int .i64 (edgC true)]) ∧ Sep w w' [.own 74 2 q (edgL true O T).length c (encE (edgL true O T))] := by
  obtain ⟨i0, hi0, hz0, hz1, hz2⟩ := info_parts inf34
  have S0 := Lib.hid ((Sep.start w).al #[.slice po no co, .slice pt nt ct, .slice pr nr cr, .slice pv nv cv] 24 w.heap.size rfl)
  have HC := Lib.hid (fun W1 (h : Ext w W1) => Check04 po no co O pt nt ct T pr nr cr R pv nv cv V W1 (hO.ext h) (hT.ext h) (hR.ext h) (hV.ext h) hct hcv)
  rw [hck] at HC
  have h1 := (checkR_half hck).2.2.1
  have r := offB_parts (halfB_off h1)
  have HOK := offOk_of (halfB_off h1)
  have l1 := hO.nI
  have l2 := hT.nI
  have n1 := hO.small
  have L1 := Lib.hid l1
  have hpk : Hid (∀ k, k < O.length - 1 → ∀ j, (pairsK O T k ++ (rowX O T k).take j).length ≤ 2000) := fun k hk j => by
    have h := (pairs_prefix (O := O) (T := T) (j := j) hk).length_le
    unfold pairs at h
    rw [pairs_len HOK r.2.2.2.1 (O.length - 1) (by omega), r.2.2.2.2.1] at h
    omega
  have HR1 := Lib.hid (fun W1 (h : Ext w W1) k (hk : k + 1 < O.length) => row04 po no co O pt nt ct T k W1 (hO.ext h) (hT.ext h) hct HOK hk (by omega))
  have no200 : no ≤ 201 := by omega
  have rl2000 : ∀ k, (rowL O T k).length ≤ 2000 := fun k => by unfold rowL; rw [List.length_take, List.length_drop]; omega
  have RL := Lib.hid rl2000
  clear hO hT hR hV hck h1 r HOK l1 l2 rl2000
  show Calls _ _ _ _ fun e w' => ∃ q c, e = .returned (.tuple #[.slice q (pairs O T).length c, .int .i64 0]) ∧ Sep w w' [.own 74 2 q (pairs O T).length c (encE (pairs O T))]
  go_enter Tryz.func110, Tryz.ntmps110
  go_wp2_with (go_at_call 43; go_must (refine (HC.out _ S0.out.ext).mono ?_; rintro e w1 ⟨rfl, hb⟩; have S1 := Lib.hid (S0.out.call hb); have az := (S1.out.blk 0 rfl).lt; have a0 := (S1.out.blk 0 rfl).cell 0; have a1 := (S1.out.blk 0 rfl).cell 1; have a2 := (S1.out.blk 0 rfl).cell 2; have a3 := (S1.out.blk 0 rfl).cell 3; clear hb))
  go_loopw [4, 5, 6, 7] (fun out v _ _ wr => ∃ (k : Nat) (q : Option Addr) (c : Nat), k ≤ no - 1 ∧ v = .int .i64 k ∧ out = .slice q (pairsK O T k).length c ∧ Sep w wr [.own 74 2 q (pairsK O T k).length c (encE (pairsK O T k)), .blk w.heap.size 24 #[.slice po no co, .slice pt nt ct, .slice pr nr cr, .slice pv nv cv]]) (fun _ v _ _ _ => no - 1 - (intOf v).toNat)
  case atStart => exact ⟨0, none, 0, Nat.zero_le _, rfl, rfl, S1.out.nilrow _ _⟩
  case round =>
    clear S0 S1 a0 a1 a2 a3 az
    obtain ⟨k, q, c, hk, rfl, rfl, S⟩ := hrel
    have az := (S.blk 1 rfl).lt; have a0 := (S.blk 1 rfl).cell 0; have a1 := (S.blk 1 rfl).cell 1; have a2 := (S.blk 1 rfl).cell 2; have a3 := (S.blk 1 rfl).cell 3
    by_cases hlt : k < no - 1
    · have hkO : k + 1 < O.length := by have := L1.out; omega
      have t1 : (k:Int) + 1 < no := by omega
      have t0 : (0:Int) ≤ k := by omega
      have HRk := Lib.hid (fun W1 (h : Ext w W1) => HR1.out W1 h k hkO)
      have rlk := RL.out k
      have hpl := Lib.hid (hpk.out k (by omega))
      have hst := Lib.hid (fun j (hj : j < (rowL O T k).length) => rowX_take (O := O) (T := T) hj)
      have hend : Hid ((rowX O T k).take (rowL O T k).length = rowX O T k) := by unfold Hid rowX; rw [List.take_of_length_le (by simp)]
      have hps := Lib.hid (pairsK_step O T k)
      generalize rowL O T k = l at *
      generalize rowX O T k = xs at *
      generalize pairsK O T k = ps at *
      have SH := Lib.hid S; clear S
      go_wp2_with (go_at_call 69; go_must (refine (HRk.out _ SH.out.ext).mono ?_; rintro e w3 ⟨q2, c2, rfl, Z⟩; have P1 := Lib.hid (SH.out.comp Z); clear Z))
      go_loopw [4, 7] (fun out i wr => ∃ (j : Nat) (q : Option Addr) (c : Nat), j ≤ l.length ∧ i = .int .i64 j ∧ out = .slice q (ps ++ xs.take j).length c ∧ Sep w wr [.own 3 1 q2 l.length c2 (encI l), .own 74 2 q (ps ++ xs.take j).length c (encE (ps ++ xs.take j)), .blk w.heap.size 24 #[.slice po no co, .slice pt nt ct, .slice pr nr cr, .slice pv nv cv]]) (fun _ i _ => l.length - (intOf i).toNat)
      case atStart => exact ⟨0, q, c, Nat.zero_le _, rfl, by simp, by simpa using P1.out⟩
      case round =>
        clear SH P1 a0 a1 a2 a3 az
        obtain ⟨j, q, c, hj, rfl, rfl, S⟩ := hrel
        have pq := (S.rd 0 rfl (by omega)).ptr
        by_cases hlj : j < l.length
        · have g1 := (S.rd 0 rfl (by omega)).cI hlj
          have h0 := hpl.out j
          have hs : Hid (ps ++ xs.take (j + 1) = (ps ++ xs.take j) ++ [((k:Int), nth l j)]) := by unfold Hid; rw [hst.out j hlj, List.append_assoc]
          generalize ps ++ xs.take j = ys at *
          generalize nth l j = x at *
          have t2 : (0:Int) ≤ j := by omega
          have t3 : (j:Int) < l.length := by omega
          have SH := Lib.hid S; clear S
          go_wp2_with (at_builtin; go_must (refine wpList_append_sep rfl _ _ _ rfl 74 i0 _ 2 16 Tryz.underlying75 hi0 hz0 hz1 hz2 rfl (by omega) (SH.out.junk _) 1 q ys.length c _ rfl rfl _ 1 1 _ rfl (Rd.one2 _ _ _ _) (one_encE _) (by omega) (by omega) ?_; intro q' c' w' S' hsz; have S5 := Lib.hid S'; clear S' hsz))
          go_roundw
          case rel => exact ⟨j + 1, q', c', by omega, by go_num, by rw [hs.out, List.length_append]; rfl, by rw [hs.out, List.length_append, encE_append]; exact S5.out⟩
          case measure => simp [intOf]; omega
        · obtain rfl : j = l.length := by omega
          rw [hend.out, ← hps.out] at S
          rw [hend.out, ← hps.out]
          have SH := Lib.hid S; clear S
          go_wp2
          go_roundw
          case rel => exact ⟨k + 1, q, c, by omega, by go_num, rfl, SH.out.pick [1, 2] (by decide) rfl⟩
          case measure => simp [intOf]; omega
    · have hend : pairsK O T k = pairs O T := by
        unfold pairs
        rw [show O.length - 1 = k by have := L1.out; omega]
      rw [hend] at S
      rw [hend]
      have t1 : decide ((k:Int) + 1 < no) = false := by simp; omega
      have SH := Lib.hid S; clear S
      clear hend
      go_wp2
      go_ret2
      exact ⟨q, c, rfl, SH.out.pick [0] (by decide) rfl⟩
theorem Edges04 (po : Option Addr) (no co : Nat) (O : List Int) (pt : Option Addr) (nt ct : Nat) (T : List Int) (pr : Option Addr) (nr cr : Nat) (R : List Int) (pv : Option Addr) (nv cv : Nat) (V : List Int) (w : World) (hO : Rd w 1 po no (encI O)) (hT : Rd w 1 pt nt (encI T)) (hR : Rd w 1 pr nr (encI R)) (hV : Rd w 1 pv nv (encI V)) (hct : nt ≤ ct) (hcv : nv ≤ cv) :
    Calls Tryz.prog 110 #[.agg #[.slice po no co, .slice pt nt ct, .slice pr nr cr, .slice pv nv cv]] w fun e w' => ∃ q c, e = .returned (.tuple #[.slice q (edgL (checkR O T R V) O T).length c, .int .i64 (edgC (checkR O T R V))]) ∧ Sep w w' [.own 74 2 q (edgL (checkR O T R V) O T).length c (encE (edgL (checkR O T R V) O T))] := by
  cases hck : checkR O T R V with
  | true => exact Edges04_yes po no co O pt nt ct T pr nr cr R pv nv cv V w hO hT hR hV hct hcv hck
  | false =>
    have S0 := Lib.hid ((Sep.start w).al #[.slice po no co, .slice pt nt ct, .slice pr nr cr, .slice pv nv cv] 24 w.heap.size rfl)
    have HC := Lib.hid (fun W1 (h : Ext w W1) => Check04 po no co O pt nt ct T pr nr cr R pv nv cv V W1 (hO.ext h) (hT.ext h) (hR.ext h) (hV.ext h) hct hcv)
    rw [hck] at HC
    clear hO hT hR hV hck
    show Calls _ _ _ _ fun e w' => ∃ q c, e = .returned (.tuple #[.slice q 0 c, .int .i64 40]) ∧ Sep w w' [.own 74 2 q 0 c []]
    go_enter Tryz.func110, Tryz.ntmps110
    go_wp2_with (go_at_call 43; go_must (refine (HC.out _ S0.out.ext).mono ?_; rintro e w1 ⟨rfl, hb⟩; have S1 := Lib.hid (S0.out.call hb); have az := (S1.out.blk 0 rfl).lt; have a0 := (S1.out.blk 0 rfl).cell 0; have a1 := (S1.out.blk 0 rfl).cell 1; have a2 := (S1.out.blk 0 rfl).cell 2; have a3 := (S1.out.blk 0 rfl).cell 3; clear hb))
    go_ret2
    exact ⟨none, 0, rfl, ((Sep.start w).call S1.out.ext).nilrow _ _⟩
end Go.Proofs.YthlmcfbadhidbaaGreat
/- The document's example rows, told. -/
namespace Go.Proofs.YthlmcfbadhidbaaGreat
open Go Go.RowKit
end Go.Proofs.YthlmcfbadhidbaaGreat
/- The law RowsTell: rows are right, or not, and tell just these of a place, and just these edges. -/
namespace Go.Proofs.YthlmcfbadhidbaaGreat
open Go Go.RowKit
theorem bigR_bd {O T R V : List Int} (h : bigR O T R V = false) : O.length ≤ 250 ∧ T.length ≤ 2100 ∧ R.length ≤ 250 ∧ V.length ≤ 2100 := by
  unfold bigR at h
  simp only [Bool.or_eq_false_iff, decide_eq_false_iff_not] at h
  omega
end Go.Proofs.YthlmcfbadhidbaaGreat
/- The law OrderTells: rows have just this order; numbers are an order, or not, with just these places and this number. -/
namespace Go.Proofs.YthlmcfbadhidbaaGreat
open Go Go.RowKit
set_option maxRecDepth 100000 in
set_option maxHeartbeats 16000000 in
theorem lawTells11 (po : Option Addr) (no co : Nat) (O : List Int) (pt : Option Addr) (nt ct : Nat) (T : List Int) (pr : Option Addr) (nr cr : Nat) (R : List Int) (pv : Option Addr) (nv cv : Nat) (V : List Int) (pl : Option Addr) (nl cl : Nat) (l : List Int) (n k : Int) (w : World) (hO : Rd w 1 po no (encI O)) (hT : Rd w 1 pt nt (encI T)) (hR : Rd w 1 pr nr (encI R)) (hV : Rd w 1 pv nv (encI V)) (hct : nt ≤ ct) (hcv : nv ≤ cv) (hl : Rd w 1 pl nl (encI l)) (hcl : nl ≤ cl) (hk : k ≤ 9223372036854775807) : Calls Tryz.prog 3 #[.agg #[.slice po no co, .slice pt nt ct, .slice pr nr cr, .slice pv nv cv], .slice pl nl cl, .int .i64 n, .int .i64 k] w fun e w' => e = .returned (.bool true) ∧ Ext w w' := by
  have HBig := Lib.hid (fun W1 (h : Ext w W1) => Big04 po no co O pt nt ct T pr nr cr R pv nv cv V W1 (hO.ext h) (hT.ext h) (hR.ext h) (hV.ext h))
  have S0 := Lib.hid ((Sep.start w).al #[.slice po no co, .slice pt nt ct, .slice pr nr cr, .slice pv nv cv] 24 w.heap.size rfl)
  cases hbig : bigR O T R V with
  | true =>
    rw [hbig] at HBig
    clear hO hT hR hV hl
    go_enter Tryz.func3, Tryz.ntmps3
    go_wp2_with (go_at_call 10; go_must (refine (HBig.out _ S0.out.ext).mono ?_; rintro e w1 ⟨rfl, hb1⟩; have S1 := Lib.hid (S0.out.call hb1); have xz := (S1.out.blk 0 rfl).lt; have x0 := (S1.out.blk 0 rfl).cell 0; have x1 := (S1.out.blk 0 rfl).cell 1; have x2 := (S1.out.blk 0 rfl).cell 2; have x3 := (S1.out.blk 0 rfl).cell 3; clear hb1))
    go_ret
    exact ⟨rfl, S1.out.ext⟩
  | false =>
    rw [hbig] at HBig
    by_cases h60 : 60 < nl
    · have c1 : decide ((60:Int) < nl) = true := by simp; omega
      clear hO hT hR hV hl h60
      go_enter Tryz.func3, Tryz.ntmps3
      go_wp2_with (go_at_call 10; go_must (refine (HBig.out _ S0.out.ext).mono ?_; rintro e w1 ⟨rfl, hb1⟩; have S1 := Lib.hid (S0.out.call hb1); have xz := (S1.out.blk 0 rfl).lt; have x0 := (S1.out.blk 0 rfl).cell 0; have x1 := (S1.out.blk 0 rfl).cell 1; have x2 := (S1.out.blk 0 rfl).cell 2; have x3 := (S1.out.blk 0 rfl).cell 3; clear hb1))
      go_ret
      exact ⟨rfl, S1.out.ext⟩
    · have c1 : decide ((60:Int) < nl) = false := by simp; omega
      by_cases h20 : 20 < n
      · have c2 : decide (20 < n) = true := by simpa using h20
        clear hO hT hR hV hl h60 h20
        go_enter Tryz.func3, Tryz.ntmps3
        go_wp2_with (go_at_call 10; go_must (refine (HBig.out _ S0.out.ext).mono ?_; rintro e w1 ⟨rfl, hb1⟩; have S1 := Lib.hid (S0.out.call hb1); have xz := (S1.out.blk 0 rfl).lt; have x0 := (S1.out.blk 0 rfl).cell 0; have x1 := (S1.out.blk 0 rfl).cell 1; have x2 := (S1.out.blk 0 rfl).cell 2; have x3 := (S1.out.blk 0 rfl).cell 3; clear hb1))
        go_ret
        exact ⟨rfl, S1.out.ext⟩
      · have c2 : decide (20 < n) = false := by simpa using h20
        have hbd := bigR_bd hbig
        have l1 := hO.nI
        have l2 := hT.nI
        have l3 := hR.nI
        have l4 := hV.nI
        have HOwn := Lib.hid (fun W1 (h : Ext w W1) => Own04 po no co O pt nt ct T pr nr cr R pv nv cv V W1 (hO.ext h) (hT.ext h) (hR.ext h) (hV.ext h) (by omega) (by omega) (by omega) (by omega))
        have HSame := Lib.hid (fun (qo : Option Addr) (do' : Nat) (qt : Option Addr) (dt : Nat) (qr : Option Addr) (dr : Nat) (qv : Option Addr) (dv : Nat) W1 (h0 : Ext w W1) (h : R4 W1 qo no qt nt qr nr qv nv O T R V) => Same04T po no co O pt nt ct T pr nr cr R pv nv cv V qo no do' qt nt dt qr nr dr qv nv dv W1 (hO.ext h0) (hT.ext h0) (hR.ext h0) (hV.ext h0) h.o h.t h.r h.v)
        have HBY := Lib.hid (fun W1 (h : Ext w W1) => ByG po no co O pt nt ct T pr nr cr R pv nv cv V W1 (hO.ext h) (hT.ext h) (hR.ext h) (hV.ext h) hct hcv)
        have HBY11 := Lib.hid (fun (qo : Option Addr) (do' : Nat) (qt : Option Addr) (dt : Nat) (qr : Option Addr) (dr : Nat) (qv : Option Addr) (dv : Nat) W1 (h : R4 W1 qo no qt nt qr nr qv nv O T R V) (h1 : nt ≤ dt) (h2 : nv ≤ dv) (h3 : Ext w W1) => By11 qo no do' O qt nt dt T qr nr dr R qv nv dv V W1 h.o h.t h.r h.v h1 h2)
        have HL := Lib.hid hl
        have HOL := Lib.hid (fun W1 (h : Ext w W1) => OwnI01 pl nl cl l W1 (hl.ext h) (by omega))
        have HPA := Lib.hid (fun W1 (h : Ext w W1) => PlacesG pl nl cl l W1 (hl.ext h) (by omega))
        have HPR := Lib.hid (fun W1 q c (h : Rd W1 1 q nl (encI l)) => Places11 q nl c l W1 h (by omega))
        have HTA := Lib.hid (fun W1 (h : Ext w W1) => TurnsG pl nl cl l W1 (hl.ext h) (by omega) hcl)
        have HTR := Lib.hid (fun W1 q c (h : Rd W1 1 q nl (encI l)) => Turns11 q nl c l W1 h (by omega))
        have HIA := Lib.hid (fun W1 (h : Ext w W1) => OrdIsG pl nl cl l n W1 (hl.ext h) (by omega))
        have HIR := Lib.hid (fun W1 q c (h : Rd W1 1 q nl (encI l)) => Is11 q nl c l n W1 h (by omega))
        have HNA := Lib.hid (fun W1 => NthG n k W1 hk)
        have HNR := Lib.hid (fun W1 => Nth11 n k W1 hk)
        generalize byR (checkR O T R V) O R = BV at *
        generalize byC (checkR O T R V) = bc at *
        generalize plV' l = PV at *
        generalize plC l = pc at *
        generalize nthV n k = NV at *
        generalize nthC n k = nc at *
        generalize turnV l = tv at *
        generalize turnC l = tc at *
        generalize isN l n = isb at *
        clear hO hT hR hV hl hbig hbd l1 l2 l3 l4 h60 h20
        go_enter Tryz.func3, Tryz.ntmps3
        go_wp2_with (first
          | (go_at_call 21; have _t := S18; go_must (refine (IntsY _ _ _ _ _ _ l _ (HL.out.ext (Ext.trans E2.out S18.out.ext)) (S18.out.rdx 6 rfl)).mono ?_; rintro e w19 ⟨rfl, hb⟩; have S19 := Lib.hid (S18.out.call hb); have x19z := Nat.lt_of_lt_of_le HB.out.lt S19.out.ext.size; have x190 := S19.out.ext.cell (HB.out.cell 0); have x191 := S19.out.ext.cell (HB.out.cell 1); have x192 := S19.out.ext.cell (HB.out.cell 2); have x193 := S19.out.ext.cell (HB.out.cell 3); have y19z := (S19.out.blk 7 rfl).lt; have y190 := (S19.out.blk 7 rfl).cell 0; have y191 := (S19.out.blk 7 rfl).cell 1; have y192 := (S19.out.blk 7 rfl).cell 2; have y193 := (S19.out.blk 7 rfl).cell 3; clear hb))
          | (go_at_call 25; go_must (refine (HSame.out qo do' qt dt qr dr qv dv _ (Ext.trans E2.out S17.out.ext) (KO.out.ext S17.out.ext)).mono ?_; rintro e w18 ⟨rfl, hb⟩; have S18 := Lib.hid (S17.out.call hb); have x18z := Nat.lt_of_lt_of_le HB.out.lt S18.out.ext.size; have x180 := S18.out.ext.cell (HB.out.cell 0); have x181 := S18.out.ext.cell (HB.out.cell 1); have x182 := S18.out.ext.cell (HB.out.cell 2); have x183 := S18.out.ext.cell (HB.out.cell 3); have y18z := (S18.out.blk 7 rfl).lt; have y180 := (S18.out.blk 7 rfl).cell 0; have y181 := (S18.out.blk 7 rfl).cell 1; have y182 := (S18.out.blk 7 rfl).cell 2; have y183 := (S18.out.blk 7 rfl).cell 3; clear hb))
          | (go_at_call 24; go_must (refine ((HIR.out _ _ _ (S16.out.rdx 6 rfl))).mono ?_; rintro e w17 ⟨rfl, hb⟩; have S17 := Lib.hid (S16.out.call hb); have x17z := Nat.lt_of_lt_of_le HB.out.lt S17.out.ext.size; have x170 := S17.out.ext.cell (HB.out.cell 0); have x171 := S17.out.ext.cell (HB.out.cell 1); have x172 := S17.out.ext.cell (HB.out.cell 2); have x173 := S17.out.ext.cell (HB.out.cell 3); have y17z := (S17.out.blk 7 rfl).lt; have y170 := (S17.out.blk 7 rfl).cell 0; have y171 := (S17.out.blk 7 rfl).cell 1; have y172 := (S17.out.blk 7 rfl).cell 2; have y173 := (S17.out.blk 7 rfl).cell 3; clear hb))
          | (go_at_call 23; go_must (refine ((HIA.out _ (Ext.trans E2.out S15.out.ext))).mono ?_; rintro e w16 ⟨rfl, hb⟩; have S16 := Lib.hid (S15.out.call hb); have x16z := Nat.lt_of_lt_of_le HB.out.lt S16.out.ext.size; have x160 := S16.out.ext.cell (HB.out.cell 0); have x161 := S16.out.ext.cell (HB.out.cell 1); have x162 := S16.out.ext.cell (HB.out.cell 2); have x163 := S16.out.ext.cell (HB.out.cell 3); have y16z := (S16.out.blk 7 rfl).lt; have y160 := (S16.out.blk 7 rfl).cell 0; have y161 := (S16.out.blk 7 rfl).cell 1; have y162 := (S16.out.blk 7 rfl).cell 2; have y163 := (S16.out.blk 7 rfl).cell 3; clear hb))
          | (go_at_call 22; go_must (refine ((Orders11 _)).mono ?_; rintro e w15 ⟨rfl, hb⟩; have S15 := Lib.hid (S14.out.call hb); have x15z := Nat.lt_of_lt_of_le HB.out.lt S15.out.ext.size; have x150 := S15.out.ext.cell (HB.out.cell 0); have x151 := S15.out.ext.cell (HB.out.cell 1); have x152 := S15.out.ext.cell (HB.out.cell 2); have x153 := S15.out.ext.cell (HB.out.cell 3); have y15z := (S15.out.blk 7 rfl).lt; have y150 := (S15.out.blk 7 rfl).cell 0; have y151 := (S15.out.blk 7 rfl).cell 1; have y152 := (S15.out.blk 7 rfl).cell 2; have y153 := (S15.out.blk 7 rfl).cell 3; clear hb))
          | (go_at_call 21; have _t := S13; go_must (refine (IntsY _ _ _ _ _ _ NV _ (S13.out.rdx 1 rfl) (S13.out.rdx 0 rfl)).mono ?_; rintro e w14 ⟨rfl, hb⟩; have S14 := Lib.hid (S13.out.call hb); have x14z := Nat.lt_of_lt_of_le HB.out.lt S14.out.ext.size; have x140 := S14.out.ext.cell (HB.out.cell 0); have x141 := S14.out.ext.cell (HB.out.cell 1); have x142 := S14.out.ext.cell (HB.out.cell 2); have x143 := S14.out.ext.cell (HB.out.cell 3); have y14z := (S14.out.blk 7 rfl).lt; have y140 := (S14.out.blk 7 rfl).cell 0; have y141 := (S14.out.blk 7 rfl).cell 1; have y142 := (S14.out.blk 7 rfl).cell 2; have y143 := (S14.out.blk 7 rfl).cell 3; clear hb))
          | (go_at_call 21; have _t := S12; go_must (refine (IntsY _ _ _ _ _ _ PV _ (S12.out.rdx 3 rfl) (S12.out.rdx 2 rfl)).mono ?_; rintro e w13 ⟨rfl, hb⟩; have S13 := Lib.hid (S12.out.call hb); have x13z := Nat.lt_of_lt_of_le HB.out.lt S13.out.ext.size; have x130 := S13.out.ext.cell (HB.out.cell 0); have x131 := S13.out.ext.cell (HB.out.cell 1); have x132 := S13.out.ext.cell (HB.out.cell 2); have x133 := S13.out.ext.cell (HB.out.cell 3); have y13z := (S13.out.blk 7 rfl).lt; have y130 := (S13.out.blk 7 rfl).cell 0; have y131 := (S13.out.blk 7 rfl).cell 1; have y132 := (S13.out.blk 7 rfl).cell 2; have y133 := (S13.out.blk 7 rfl).cell 3; clear hb))
          | (go_at_call 21; have _t := S11; go_must (refine (IntsY _ _ _ _ _ _ BV _ (S11.out.rdx 5 rfl) (S11.out.rdx 4 rfl)).mono ?_; rintro e w12 ⟨rfl, hb⟩; have S12 := Lib.hid (S11.out.call hb); have x12z := Nat.lt_of_lt_of_le HB.out.lt S12.out.ext.size; have x120 := S12.out.ext.cell (HB.out.cell 0); have x121 := S12.out.ext.cell (HB.out.cell 1); have x122 := S12.out.ext.cell (HB.out.cell 2); have x123 := S12.out.ext.cell (HB.out.cell 3); have y12z := (S12.out.blk 7 rfl).lt; have y120 := (S12.out.blk 7 rfl).cell 0; have y121 := (S12.out.blk 7 rfl).cell 1; have y122 := (S12.out.blk 7 rfl).cell 2; have y123 := (S12.out.blk 7 rfl).cell 3; clear hb))
          | (go_at_call 20; go_must (refine ((HTR.out _ _ _ (S10.out.rdx 6 rfl))).mono ?_; rintro e w11 ⟨rfl, hb⟩; have S11 := Lib.hid (S10.out.call hb); have x11z := Nat.lt_of_lt_of_le HB.out.lt S11.out.ext.size; have x110 := S11.out.ext.cell (HB.out.cell 0); have x111 := S11.out.ext.cell (HB.out.cell 1); have x112 := S11.out.ext.cell (HB.out.cell 2); have x113 := S11.out.ext.cell (HB.out.cell 3); have y11z := (S11.out.blk 7 rfl).lt; have y110 := (S11.out.blk 7 rfl).cell 0; have y111 := (S11.out.blk 7 rfl).cell 1; have y112 := (S11.out.blk 7 rfl).cell 2; have y113 := (S11.out.blk 7 rfl).cell 3; clear hb))
          | (go_at_call 19; go_must (refine ((HTA.out _ (Ext.trans E2.out S9.out.ext))).mono ?_; rintro e w10 ⟨rfl, hb⟩; have S10 := Lib.hid (S9.out.call hb); have x10z := Nat.lt_of_lt_of_le HB.out.lt S10.out.ext.size; have x100 := S10.out.ext.cell (HB.out.cell 0); have x101 := S10.out.ext.cell (HB.out.cell 1); have x102 := S10.out.ext.cell (HB.out.cell 2); have x103 := S10.out.ext.cell (HB.out.cell 3); have y10z := (S10.out.blk 7 rfl).lt; have y100 := (S10.out.blk 7 rfl).cell 0; have y101 := (S10.out.blk 7 rfl).cell 1; have y102 := (S10.out.blk 7 rfl).cell 2; have y103 := (S10.out.blk 7 rfl).cell 3; clear hb))
          | (go_at_call 18; go_must (refine (HNR.out _).mono ?_; rintro e w9 ⟨q9, c9, rfl, Z⟩; have S9 := Lib.hid (S8.out.comp Z); have x9z := Nat.lt_of_lt_of_le HB.out.lt S9.out.ext.size; have x90 := S9.out.ext.cell (HB.out.cell 0); have x91 := S9.out.ext.cell (HB.out.cell 1); have x92 := S9.out.ext.cell (HB.out.cell 2); have x93 := S9.out.ext.cell (HB.out.cell 3); have y9z := (S9.out.blk 7 rfl).lt; have y90 := (S9.out.blk 7 rfl).cell 0; have y91 := (S9.out.blk 7 rfl).cell 1; have y92 := (S9.out.blk 7 rfl).cell 2; have y93 := (S9.out.blk 7 rfl).cell 3; clear Z))
          | (go_at_call 17; go_must (refine (HNA.out _).mono ?_; rintro e w8 ⟨q8, c8, rfl, Z⟩; have S8 := Lib.hid (S7.out.comp Z); have x8z := Nat.lt_of_lt_of_le HB.out.lt S8.out.ext.size; have x80 := S8.out.ext.cell (HB.out.cell 0); have x81 := S8.out.ext.cell (HB.out.cell 1); have x82 := S8.out.ext.cell (HB.out.cell 2); have x83 := S8.out.ext.cell (HB.out.cell 3); have y8z := (S8.out.blk 6 rfl).lt; have y80 := (S8.out.blk 6 rfl).cell 0; have y81 := (S8.out.blk 6 rfl).cell 1; have y82 := (S8.out.blk 6 rfl).cell 2; have y83 := (S8.out.blk 6 rfl).cell 3; clear Z))
          | (go_at_call 16; go_must (refine (HPR.out _ _ _ (S6.out.rdx 3 rfl)).mono ?_; rintro e w7 ⟨q7, c7, rfl, Z⟩; have S7 := Lib.hid (S6.out.comp Z); have x7z := Nat.lt_of_lt_of_le HB.out.lt S7.out.ext.size; have x70 := S7.out.ext.cell (HB.out.cell 0); have x71 := S7.out.ext.cell (HB.out.cell 1); have x72 := S7.out.ext.cell (HB.out.cell 2); have x73 := S7.out.ext.cell (HB.out.cell 3); have y7z := (S7.out.blk 5 rfl).lt; have y70 := (S7.out.blk 5 rfl).cell 0; have y71 := (S7.out.blk 5 rfl).cell 1; have y72 := (S7.out.blk 5 rfl).cell 2; have y73 := (S7.out.blk 5 rfl).cell 3; clear Z))
          | (go_at_call 15; go_must (refine (HPA.out _ (Ext.trans E2.out S5.out.ext)).mono ?_; rintro e w6 ⟨q6, c6, rfl, Z⟩; have S6 := Lib.hid (S5.out.comp Z); have x6z := Nat.lt_of_lt_of_le HB.out.lt S6.out.ext.size; have x60 := S6.out.ext.cell (HB.out.cell 0); have x61 := S6.out.ext.cell (HB.out.cell 1); have x62 := S6.out.ext.cell (HB.out.cell 2); have x63 := S6.out.ext.cell (HB.out.cell 3); have y6z := (S6.out.blk 4 rfl).lt; have y60 := (S6.out.blk 4 rfl).cell 0; have y61 := (S6.out.blk 4 rfl).cell 1; have y62 := (S6.out.blk 4 rfl).cell 2; have y63 := (S6.out.blk 4 rfl).cell 3; clear Z))
          | (go_at_call 14; go_must (refine (HBY11.out qo do' qt dt qr dr qv dv _ (KO.out.ext S4.out.ext) C1 C2 (Ext.trans E2.out S4.out.ext)).mono ?_; rintro e w5 ⟨q5, c5, rfl, Z⟩; have S5 := Lib.hid (S4.out.comp Z); have x5z := Nat.lt_of_lt_of_le HB.out.lt S5.out.ext.size; have x50 := S5.out.ext.cell (HB.out.cell 0); have x51 := S5.out.ext.cell (HB.out.cell 1); have x52 := S5.out.ext.cell (HB.out.cell 2); have x53 := S5.out.ext.cell (HB.out.cell 3); have y5z := (S5.out.blk 3 rfl).lt; have y50 := (S5.out.blk 3 rfl).cell 0; have y51 := (S5.out.blk 3 rfl).cell 1; have y52 := (S5.out.blk 3 rfl).cell 2; have y53 := (S5.out.blk 3 rfl).cell 3; clear Z))
          | (go_at_call 13; go_must (refine (HBY.out _ (Ext.trans E2.out S3.out.ext)).mono ?_; rintro e w4 ⟨q4, c4, rfl, Z⟩; have S4 := Lib.hid (S3.out.comp Z); have x4z := Nat.lt_of_lt_of_le HB.out.lt S4.out.ext.size; have x40 := S4.out.ext.cell (HB.out.cell 0); have x41 := S4.out.ext.cell (HB.out.cell 1); have x42 := S4.out.ext.cell (HB.out.cell 2); have x43 := S4.out.ext.cell (HB.out.cell 3); have y4z := (S4.out.blk 2 rfl).lt; have y40 := (S4.out.blk 2 rfl).cell 0; have y41 := (S4.out.blk 2 rfl).cell 1; have y42 := (S4.out.blk 2 rfl).cell 2; have y43 := (S4.out.blk 2 rfl).cell 3; clear Z))
          | (go_at_call 12; go_must (refine (HOL.out _ (Ext.trans E2.out S2.out.ext)).mono ?_; rintro e w3 ⟨q3, c3, rfl, Z⟩; have S3 := Lib.hid (S2.out.comp Z); have x3z := Nat.lt_of_lt_of_le HB.out.lt S3.out.ext.size; have x30 := S3.out.ext.cell (HB.out.cell 0); have x31 := S3.out.ext.cell (HB.out.cell 1); have x32 := S3.out.ext.cell (HB.out.cell 2); have x33 := S3.out.ext.cell (HB.out.cell 3); have y3z := (S3.out.blk 1 rfl).lt; have y30 := (S3.out.blk 1 rfl).cell 0; have y31 := (S3.out.blk 1 rfl).cell 1; have y32 := (S3.out.blk 1 rfl).cell 2; have y33 := (S3.out.blk 1 rfl).cell 3; clear Z))
          | (go_at_call 11; go_must (refine (HOwn.out _ S1.out.ext).mono ?_; rintro e wo ⟨qo, do', qt, dt, qr, dr, qv, dv, rfl, k1, C1, C2, k2⟩; have KO := Lib.hid k1; have E2 := Lib.hid (Ext.trans S1.out.ext k2); have HB := Lib.hid ((S1.out.call k2).blk 0 rfl); have S2 := Lib.hid ((Sep.start wo).al #[.slice qo no do', .slice qt nt dt, .slice qr nr dr, .slice qv nv dv] 24 wo.heap.size rfl); have x20 := k2.cell x0; have x21 := k2.cell x1; have x22 := k2.cell x2; have x23 := k2.cell x3; have x2z := HB.out.lt; clear k1 k2))
          | (go_at_call 10; go_must (refine (HBig.out _ S0.out.ext).mono ?_; rintro e w1 ⟨rfl, hb1⟩; have S1 := Lib.hid (S0.out.call hb1); have xz := (S1.out.blk 0 rfl).lt; have x0 := (S1.out.blk 0 rfl).cell 0; have x1 := (S1.out.blk 0 rfl).cell 1; have x2 := (S1.out.blk 0 rfl).cell 2; have x3 := (S1.out.blk 0 rfl).cell 3; clear hb1)))
        go_ret
        exact ⟨rfl, Ext.trans E2.out S19.out.ext⟩
end Go.Proofs.YthlmcfbadhidbaaGreat
/- An argument that is a graph, opened: what its slices read. -/
namespace Go.Proofs.YthlmcfbadhidbaaGreat
open Go Go.RowKit Go.ChangeShapes Go.WideShapes Go.ChangeAt Go.Deep Go.Joins
theorem exists_list {α : Type} [Inhabited α] {n : Nat} {p : Nat → α → Prop} (h : ∀ i, i < n → ∃ x, p i x) : ∃ l : List α, l.length = n ∧ ∀ i, i < n → p i (nth l i) := by
  induction n with
  | zero => exact ⟨[], rfl, fun i hi => by omega⟩
  | succ n ih =>
    obtain ⟨l, hl, hp⟩ := ih fun i hi => h i (by omega)
    obtain ⟨x, hx⟩ := h n (by omega)
    refine ⟨l ++ [x], by simp [hl], fun i hi => ?_⟩
    by_cases e : i = n
    · subst e
      have : nth (l ++ [x]) i = x := by subst hl; exact nth_append_new _ _
      rw [this]; exact hx
    · rw [nth_append_left _ _ _ (by omega)]; exact hp i (by omega)
theorem spot_of_cell {w : World} {a : Addr} {v : Value} (h : w.cell? a = some v) : a = ⟨a.block, a.off, none⟩ := by
  unfold World.cell? at h
  split at h
  · split at h
    · cases h
    · rename_i hs
      obtain ⟨b, o, s⟩ := a
      cases s with
      | none => rfl
      | some s => simp at hs
  · cases h
theorem Rd.of_cells {w : World} {size n : Nat} {a : Addr} {xs : List Value} (h0 : 0 < size) (hlen : xs.length = n * size) (hs : n ≤ 9223372036854775807) (hc : ∀ j, j < n * size → w.cell? (a.add j) = some (xs.getD j undef)) : Rd w size (some a) n xs := by
  rcases Nat.eq_zero_or_pos n with hn | hn
  · subst hn
    have : xs = [] := List.eq_nil_of_length_eq_zero (by simpa using hlen)
    subst this
    exact Rd.nil _ _ _
  · have h1 := hc 0 (Nat.mul_pos hn h0)
    have ha := spot_of_cell (a := a) (by simpa [Addr.add] using h1)
    refine ⟨hlen, .inr ⟨_, _, by rw [ha]⟩, hs, fun j hj => ?_⟩
    rw [← hc j hj]
    congr 1
    rw [ha, adr_some]
    by_cases hj0 : j = 0
    · subst hj0; simp [Addr.add]
    · simp [Addr.add, hj0]
section
variable {H : Type} {enc : TypeId × Value → H} {w : World} {base : Nat} {spare : Nat → Bool} {held : Bool}
theorem open_slice_fields {P : Program} {t e : TypeId} {fs : Array Field} {fuel : Nat} {cs : List Value} {x : DataW H × List MemPlace} (ht : P.underlying t = some (.slice e)) (he : P.underlying e = some (.struct fs))
    (hone : oneCellFields P fs = true) (hC : P.cellsOf e = fs.size) (h : DataW.trod enc P w base spare held fuel t cs = some x) :
    (cs = [.slice none 0 0]) ∨
    ∃ (a : Addr) (len cap : Nat), cs = [.slice (some a) len cap] ∧ len ≤ cap ∧ cap ≤ maxLen ∧
      ∀ i, i < len → ∀ (j : Nat) (f : Field), fs[j]? = some f → ∃ (v : Value) (y : DataW H × List MemPlace) (n : Nat), w.cell? (a.add (i * fs.size + j)) = some v ∧ DataW.trod enc P w base spare held n f.type [v] = some y := by
  rcases open_slice ht h with h0 | ⟨a, len, cap, m, n, D, Pl, hcs, hb, hl, hm, hmm, hx, hi⟩
  · exact .inl h0.1
  · refine .inr ⟨a, len, cap, hcs, hl, hm, fun i hil j f hj => ?_⟩
    obtain ⟨cs', hc, ht'⟩ := hi i (by rw [hmm]; split <;> omega)
    rw [hC] at hc
    obtain ⟨ys, n', hn', hy, hlen, hyl, hf⟩ := DataW.trod_struct he ht'
    obtain ⟨_, hcl, hat⟩ := World.cells?_some hc
    obtain ⟨ho, hk⟩ := hone_of hone j f hj
    have hjl : j < fs.size := (Array.getElem?_eq_some_iff.1 hj).1
    have hcell := hat j hjl
    have hv : cs'[j]? = some (cs'[j]'(by omega)) := List.getElem?_eq_getElem (by omega)
    have h1 := hf j f hj
    rw [ho, hk] at h1
    have hone' : (cs'.drop j).take 1 = [cs'[j]'(by omega)] := by
      rw [List.drop_eq_getElem_cons (by omega)]
      rfl
    rw [hone'] at h1
    have hys : ys[j]? = some (ys[j]'(by omega)) := List.getElem?_eq_getElem (by omega)
    refine ⟨_, _, _, ?_, h1.trans hys⟩
    rw [← Go.Deep.add_add, hcell, hv]
theorem open_edges {t : TypeId} {fuel : Nat} {v : Value} {x : DataW H × List MemPlace} (ht : Tryz.prog.underlying t = some (.slice 74)) (h : DataW.trod enc Tryz.prog w base spare held fuel t [v] = some x) :
    ∃ p n c E, v = .slice p n c ∧ Rd w 2 p n (encE E) := by
  rcases open_slice_fields ht Tryz.underlying74 (by kernel_rfl) (by kernel_rfl) h with h0 | ⟨a, len, cap, hcs, hl, hm, hi⟩
  · simp at h0; exact ⟨none, 0, 0, [], h0, Rd.nil _ _ _⟩
  · simp at hcs
    have hl2 : len ≤ 9223372036854775807 := by unfold maxLen at hm; omega
    have hE : ∀ i, i < len → ∃ e : Int × Int, w.cell? (a.add (i * 2)) = some (.int .i64 e.1) ∧ w.cell? (a.add (i * 2 + 1)) = some (.int .i64 e.2) := by
      intro i hil
      obtain ⟨v1, y1, n1, c1, t1⟩ := hi i hil 0 _ rfl
      obtain ⟨v2, y2, n2, c2, t2⟩ := hi i hil 1 _ rfl
      obtain ⟨k1, e1, _⟩ := DataW.trod_int Tryz.underlying3 t1
      obtain ⟨k2, e2, _⟩ := DataW.trod_int Tryz.underlying3 t2
      simp at e1 e2
      subst e1 e2
      exact ⟨(k1, k2), c1, c2⟩
    obtain ⟨E, hEl, hEc⟩ := exists_list hE
    refine ⟨some a, len, cap, E, hcs, Rd.of_cells (by decide) (by rw [encE_len, hEl]) hl2 fun j hj => ?_⟩
    have hd : j / 2 < len := by omega
    obtain ⟨g1, g2⟩ := encE_get E (j / 2) (by omega)
    obtain ⟨h1, h2⟩ := hEc (j / 2) hd
    have hm2 : j = j / 2 * 2 ∨ j = j / 2 * 2 + 1 := by omega
    rcases hm2 with e | e
    · rw [e, g1]; exact h1
    · rw [e, g2]; exact h2
theorem open_texts {t : TypeId} {fuel : Nat} {v : Value} {x : DataW H × List MemPlace} (ht : Tryz.prog.underlying t = some (.slice 9)) (h : DataW.trod enc Tryz.prog w base spare held fuel t [v] = some x) :
    ∃ p n c l, v = .slice p n c ∧ Rd w 1 p n (encS l) := by
  rcases open_slice ht h with h0 | ⟨a, len, cap, m, n, D, Pl, hcs, hb, hl, hm, hmm, hx, hi⟩
  · obtain ⟨h0, _⟩ := h0; simp at h0; exact ⟨none, 0, 0, [], h0, Rd.nil _ _ _⟩
  · simp at hcs
    have hl2 : len ≤ 9223372036854775807 := by unfold maxLen at hm; omega
    have hc1 : Tryz.prog.cellsOf 9 = 1 := by kernel_rfl
    rw [hc1] at hi
    have hS : ∀ i, i < len → ∃ s : ByteArray, w.cell? (a.add i) = some (.string s) := by
      intro i hil
      obtain ⟨cs', hc, ht'⟩ := hi i (by rw [hmm]; split <;> omega)
      obtain ⟨s, e1, _⟩ := DataW.trod_string Tryz.underlying9 ht'
      obtain ⟨_, hcl, hat⟩ := World.cells?_some hc
      have := hat 0 (by decide)
      rw [Go.Deep.add_add, Nat.mul_one, Nat.add_zero, e1] at this
      exact ⟨s, this⟩
    obtain ⟨l, hll, hlc⟩ := exists_list hS
    refine ⟨some a, len, cap, l, hcs, Rd.of_cells (by decide) (by rw [encS_len, hll, Nat.mul_one]) hl2 fun j hj => ?_⟩
    rw [encS_get l j (by omega)]
    exact hlc j (by omega)
theorem open_rows {t : TypeId} {fuel : Nat} {v : Value} {x : DataW H × List MemPlace} (ht : Tryz.prog.underlying t = some (.slice 129)) (h : DataW.trod enc Tryz.prog w base spare held fuel t [v] = some x) :
    ∃ p n c hs W, v = .slice p n c ∧ RdW w p n hs W := by
  rcases open_slice ht h with h0 | ⟨a, len, cap, m, n, D, Pl, hcs, hb, hl, hm, hmm, hx, hi⟩
  · obtain ⟨h0, _⟩ := h0; simp at h0; exact ⟨none, 0, 0, [], [], h0, rfl, Rd.nil _ _ _, fun j hj => by omega⟩
  · simp at hcs
    have hl2 : len ≤ 9223372036854775807 := by unfold maxLen at hm; omega
    have hc1 : Tryz.prog.cellsOf 129 = 1 := by kernel_rfl
    rw [hc1] at hi
    have hS : ∀ i, i < len → ∃ q : Hd × List ByteArray, w.cell? (a.add i) = some (.slice q.1.p q.1.n q.1.c) ∧ Rd w 1 q.1.p q.1.n (encS q.2) := by
      intro i hil
      obtain ⟨cs', hc, ht'⟩ := hi i (by rw [hmm]; split <;> omega)
      obtain ⟨_, hcl, hat⟩ := World.cells?_some hc
      match cs', hcl with
      | [u], _ =>
        obtain ⟨p, n', c', l, e1, hr⟩ := open_texts Tryz.underlying129 ht'
        have := hat 0 (by decide)
        rw [Go.Deep.add_add, Nat.mul_one, Nat.add_zero, e1] at this
        exact ⟨(⟨p, n', c'⟩, l), this, hr⟩
    obtain ⟨l, hll, hlc⟩ := exists_list hS
    have hm : ∀ i, i < len → nth (l.map (·.1)) i = (nth l i).1 ∧ nth (l.map (·.2)) i = (nth l i).2 := fun i hil => by
      rw [nth_eq (l := l.map (·.1)) (by rw [List.length_map]; omega), nth_eq (l := l.map (·.2)) (by rw [List.length_map]; omega), nth_eq (l := l) (by omega)]; simp
    refine ⟨some a, len, cap, l.map (·.1), l.map (·.2), hcs, by simp, Rd.of_cells (by decide) (by rw [encH_len, List.length_map, hll, Nat.mul_one]) hl2 fun j hj => ?_, fun j hj => ?_⟩
    · rw [encH_get _ j (by simp; omega), (hm j (by omega)).1]
      exact (hlc j (by omega)).1
    · rw [(hm j hj).1, (hm j hj).2]
      exact (hlc j hj).2
set_option maxRecDepth 100000 in
/-- a graph by value -/
theorem open_graph {r : Reach} {b0 : Nat} {v : Value} {d : DataW H} {p : List MemPlace} (hv : Value.okWide Tryz.prog w r b0 78 v) (h : DataW.Trod enc Tryz.prog w base spare held 78 v d p) :
    ∃ N pe ne ce pw nw cw E hs W, v = .agg #[.int .i64 N, .slice pe ne ce, .slice pw nw cw] ∧ Rd w 2 pe ne (encE E) ∧ RdW w pw nw hs W := by
  obtain ⟨v0, v1, v2, y0, y1, y2, n, rfl, _, _, t0, t1, t2⟩ := open_agg3 Tryz.underlying78 (by kernel_rfl) (by kernel_rfl) hv h
  obtain ⟨N, e0, _⟩ := DataW.trod_int Tryz.underlying3 t0
  simp at e0
  subst e0
  obtain ⟨pe, ne, ce, E, rfl, hE⟩ := open_edges Tryz.underlying75 t1
  obtain ⟨pw, nw, cw, hs, W, rfl, hW⟩ := open_rows Tryz.underlying76 t2
  exact ⟨N, pe, ne, ce, pw, nw, cw, E, hs, W, rfl, hE, hW⟩
end
end Go.Proofs.YthlmcfbadhidbaaGreat
/- The last step of a law's row: the result is true, the arguments read as they did, where the call only made memory. -/
namespace Go.Proofs.YthlmcfbadhidbaaGreat
open Go Go.RowKit Go.WideShapes Go.ChangeShapes
theorem own : ownKnob Tryz.prog.godebug = none := by kernel_rfl
theorem laidOut : laidOutB Tryz.prog = true := by kernel_rfl
set_option maxRecDepth 100000 in
/-- true comes back, the arguments stay: what is left to show is their reading -/
theorem law_post {H : Type} {enc : TypeId × Value → H} {f : Func} {s : ChangeSpec} {apart fresh handsOn again : Bool} {W W' : World} {args : Array Value} {ds : List (DataW H)} {before : List MemPlace}
    (hW : DataW.Whole enc Tryz.prog f.params.toList s.vars apart W args.toList ds [] before) (ht : f.resultTypes = #[4]) (hvars : s.vars = [])
    (hfn : s.fn H (ds ++ []) = { results := [.lit (.bool true)], args := ds })
    (hargs : ∀ sp : Nat → Bool, (∀ p ∈ before, sp p.block = true) → DataW.TrodAll enc Tryz.prog W' 0 sp true f.params.toList args.toList ds before)
    (hb : Below W.heap.size W W') : s.post enc Tryz.prog f apart fresh handsOn again W args (.bool true) W' := by
  have lits : ∀ (b : Nat) (sp : Nat → Bool) (hd : Bool), DataW.TrodAll enc Tryz.prog W' b sp hd f.resultTypes.toList ((Value.bool true).resultList f.resultTypes.size) (s.fn H (ds ++ [])).results [] := by
    intro b sp hd
    rw [hfn, ht]
    exact trodAll_mk1 (shut_bool Tryz.underlying4 true)
  have hold : ∀ sp : Nat → Bool, (∀ p ∈ before, sp p.block = true) → DataW.TrodAll enc Tryz.prog W' 0 sp true f.params.toList args.toList (s.fn H (ds ++ [])).args before := by
    intro sp hsp
    rw [hfn]; exact hargs sp hsp
  have hv : ∀ sp : Nat → Bool, DataW.TrodVars enc Tryz.prog W' sp s.vars (s.fn H (ds ++ [])).vars [] := by
    intro sp; rw [hfn, hvars]; rfl
  have hin : ∀ p ∈ before, p.block < W.heap.size := fun p hp => hW.lt p hp
  have same : before = before ++ [] := by simp
  refine ⟨ds, [], before, [], before, [], hW, lits _ _ _, hold _ (fun p hp => by simpa using hin p hp), hv _, World.keptBut_mono (fun p hp => ⟨hp, .inr (by simpa using hp)⟩) (hb.frame (· ∈ before)), fun _ => ?_⟩
  have hW2 := hW
  obtain ⟨_, _, _, _, _, hz, hn⟩ := hW2
  refine ⟨ok_one (by rw [ht]) rfl (okWide_bool_mk Tryz.underlying4 _), _, _, ([] ++ before) ++ [], ⟨[] ++ before, [], trodAll_append (hold _ (fun _ _ => rfl)) (lits _ _ _), hv _, rfl, ?_, ?_⟩, ?_⟩
  · intro b off hp
    have hp2 : MemPlace.cell b off ∈ before := by simpa using hp
    rw [hb.frozen (hin _ hp2)]
    exact hz b off hp2
  · intro ha
    simpa using hn ha
  · intro p hp _
    simpa using hp
/-- an argument's reading, carried behind the call -/
theorem stays {H : Type} {enc : TypeId × Value → H} {W W' : World} {t : TypeId} {v : Value} {d : DataW H} {ps : List MemPlace} (hr : Tryz.prog.readableRec t = true) (hrow : t < Tryz.prog.types.size) (h : DataW.Trod enc Tryz.prog W 0 (fun _ => true) true t v d ps)
    (hb : Below W.heap.size W W') (hlt : ∀ x ∈ ps, x.block < W.heap.size) {sp : Nat → Bool} (hsp : ∀ x ∈ ps, sp x.block = true) : DataW.Trod enc Tryz.prog W' 0 sp true t v d ps :=
  WideElems.Trod_stays laidOut hr hrow h (fun x hx => hb.same (hlt x hx)) hsp
/-- all readings, one by one -/
theorem trodAll_turn {H : Type} {enc : TypeId × Value → H} {P : Program} {W W' : World} {sp sp' : Nat → Bool} {hd : Bool} (ts : List TypeId) : ∀ {vs : List Value} {ds : List (DataW H)} {ps : List MemPlace}, DataW.TrodAll enc P W 0 sp hd ts vs ds ps →
    (∀ t ∈ ts, ∀ v d p, (∀ x ∈ p, x ∈ ps) → DataW.Trod enc P W 0 sp hd t v d p → DataW.Trod enc P W' 0 sp' hd t v d p) → DataW.TrodAll enc P W' 0 sp' hd ts vs ds ps := by
  induction ts with
  | nil =>
    intro vs ds ps h _
    obtain ⟨rfl, rfl, rfl⟩ := trodAll_nil h
    exact trodAll_mk0
  | cons t ts ih =>
    intro vs ds ps h hk
    obtain ⟨v, vs', d, ds', p, q, rfl, rfl, rfl, h1, h2⟩ := trodAll_cons h
    exact trodAll_cons_mk (hk t (by simp) v d p (fun x hx => by simp [hx]) h1) (ih h2 fun t' ht' v' d' p' hp' h' => hk t' (by simp [ht']) v' d' p' (fun x hx => by simp [hp' x hx]) h')
/-- all arguments' reading, carried behind the call -/
theorem stays_all {H : Type} {enc : TypeId × Value → H} {W W' : World} {ts : List TypeId} {vs : List Value} {ds : List (DataW H)} {ps : List MemPlace} (hr : ts.all (fun t => Tryz.prog.readableRec t && decide (t < Tryz.prog.types.size)) = true)
    (h : DataW.TrodAll enc Tryz.prog W 0 (fun _ => true) true ts vs ds ps) (hb : Below W.heap.size W W') (hlt : ∀ x ∈ ps, x.block < W.heap.size) {sp : Nat → Bool} (hsp : ∀ x ∈ ps, sp x.block = true) : DataW.TrodAll enc Tryz.prog W' 0 sp true ts vs ds ps :=
  trodAll_turn ts h fun t ht v d p hp h1 => by
    have h2 := List.all_eq_true.1 hr t ht
    rw [Bool.and_eq_true, decide_eq_true_eq] at h2
    exact stays h2.1 h2.2 h1 hb (fun x hx => hlt x (hp x hx)) (fun x hx => hsp x (hp x hx))
end Go.Proofs.YthlmcfbadhidbaaGreat
/- Arguments that are rows of numbers, of texts, of postings: what they read. -/
namespace Go.Proofs.YthlmcfbadhidbaaGreat
open Go Go.RowKit Go.ChangeShapes Go.WideShapes Go.ChangeAt Go.Deep Go.Joins
section
variable {H : Type} {enc : TypeId × Value → H} {w : World} {base : Nat} {spare : Nat → Bool} {held : Bool}
theorem trod_ints {t : TypeId} {fuel : Nat} {v : Value} {x : DataW H × List MemPlace} (ht : Tryz.prog.underlying t = some (.slice 3)) (h : DataW.trod enc Tryz.prog w base spare held fuel t [v] = some x) :
    ∃ p n c l, v = .slice p n c ∧ n ≤ c ∧ Rd w 1 p n (encI l) ∧ ∀ x ∈ l, I64 x := by
  rcases open_slice ht h with h0 | ⟨a, len, cap, m, n, D, Pl, hcs, hb, hl, hm, hmm, hx, hi⟩
  · obtain ⟨h0, _⟩ := h0; simp at h0; exact ⟨none, 0, 0, [], h0, Nat.le_refl _, Rd.nil _ _ _, fun x hx => nomatch hx⟩
  · simp at hcs
    have hl2 : len ≤ 9223372036854775807 := by unfold maxLen at hm; omega
    have hc1 : Tryz.prog.cellsOf 3 = 1 := by kernel_rfl
    rw [hc1] at hi
    have hS : ∀ i, i < len → ∃ s : Int, w.cell? (a.add i) = some (.int .i64 s) ∧ I64 s := by
      intro i hil
      obtain ⟨cs', hc, ht'⟩ := hi i (by rw [hmm]; split <;> omega)
      obtain ⟨s, e1, _, hw⟩ := DataW.trod_int Tryz.underlying3 ht'
      obtain ⟨_, hcl, hat⟩ := World.cells?_some hc
      have := hat 0 (by decide)
      rw [Go.Deep.add_add, Nat.mul_one, Nat.add_zero, e1] at this
      exact ⟨s, this, hw⟩
    obtain ⟨l, hll, hlc⟩ := exists_list hS
    refine ⟨some a, len, cap, l, hcs, hl, Rd.of_cells (by decide) (by rw [encI_len, hll, Nat.mul_one]) hl2 fun j hj => ?_, fun x hx => ?_⟩
    · rw [encI_get l j (by omega)]
      exact (hlc j (by omega)).1
    · obtain ⟨j, hj, rfl⟩ := List.mem_iff_getElem.1 hx
      rw [← nth_eq hj]
      exact (hlc j (by omega)).2
theorem trod_texts {t : TypeId} {fuel : Nat} {v : Value} {x : DataW H × List MemPlace} (ht : Tryz.prog.underlying t = some (.slice 9)) (h : DataW.trod enc Tryz.prog w base spare held fuel t [v] = some x) :
    ∃ p n c l, v = .slice p n c ∧ n ≤ c ∧ Rd w 1 p n (encS l) := by
  obtain ⟨p, n, c, l, rfl, hr⟩ := open_texts ht h
  refine ⟨p, n, c, l, rfl, ?_, hr⟩
  rcases open_slice ht h with h0 | ⟨a, len, cap, m, n', D, Pl, hcs, hb, hl, _⟩
  · obtain ⟨h0, _⟩ := h0; simp at h0; omega
  · simp at hcs; omega
set_option maxRecDepth 100000 in
theorem open_top {t e : TypeId} {r : Reach} {b0 : Nat} {v : Value} {d : DataW H} {p : List MemPlace} (ht : Tryz.prog.underlying t = some (.slice e)) (hv : Value.okWide Tryz.prog w r b0 t v) (h : DataW.Trod enc Tryz.prog w base spare held t v d p) :
    ∃ fuel, DataW.trod enc Tryz.prog w base spare held fuel t [v] = some (d, p) := by
  obtain ⟨a, n, c, rfl⟩ := okWide_slice ht hv
  exact h
set_option maxRecDepth 100000 in
theorem open_introw {r : Reach} {b0 : Nat} {v : Value} {d : DataW H} {p : List MemPlace} (hv : Value.okWide Tryz.prog w r b0 22 v) (h : DataW.Trod enc Tryz.prog w base spare held 22 v d p) :
    ∃ p n c l, v = .slice p n c ∧ n ≤ c ∧ Rd w 1 p n (encI l) ∧ ∀ x ∈ l, I64 x := by
  obtain ⟨f, hf⟩ := open_top Tryz.underlying22 hv h
  exact trod_ints Tryz.underlying22 hf
set_option maxRecDepth 100000 in
theorem open_textrow {r : Reach} {b0 : Nat} {v : Value} {d : DataW H} {p : List MemPlace} (hv : Value.okWide Tryz.prog w r b0 129 v) (h : DataW.Trod enc Tryz.prog w base spare held 129 v d p) :
    ∃ p n c l, v = .slice p n c ∧ n ≤ c ∧ Rd w 1 p n (encS l) := by
  obtain ⟨f, hf⟩ := open_top Tryz.underlying129 hv h
  exact trod_texts Tryz.underlying129 hf
end
end Go.Proofs.YthlmcfbadhidbaaGreat
/- An argument that is rows, opened. -/
namespace Go.Proofs.YthlmcfbadhidbaaGreat
open Go Go.RowKit Go.ChangeShapes Go.WideShapes Go.ChangeAt Go.Deep Go.Joins
section
variable {H : Type} {enc : TypeId × Value → H} {w : World} {base : Nat} {spare : Nat → Bool} {held : Bool}
set_option maxRecDepth 100000 in
theorem open_rowsarg {r : Reach} {b0 : Nat} {v : Value} {d : DataW H} {p : List MemPlace} (hv : Value.okWide Tryz.prog w r b0 24 v) (h : DataW.Trod enc Tryz.prog w base spare held 24 v d p) :
    ∃ po no co O pt nt ct T pr nr cr R pv nv cv V, v = .agg #[.slice po no co, .slice pt nt ct, .slice pr nr cr, .slice pv nv cv] ∧ Rd w 1 po no (encI O) ∧ Rd w 1 pt nt (encI T) ∧ Rd w 1 pr nr (encI R) ∧ Rd w 1 pv nv (encI V) ∧ no ≤ co ∧ nt ≤ ct ∧ nr ≤ cr ∧ nv ≤ cv := by
  obtain ⟨v0, v1, v2, v3, y0, y1, y2, y3, n, rfl, _, _, t0, t1, t2, t3⟩ := open_agg4 Tryz.underlying24 (by kernel_rfl) (by kernel_rfl) hv h
  obtain ⟨po, no, co, O, rfl, c0, h0, _⟩ := trod_ints Tryz.underlying22 t0
  obtain ⟨pt, nt, ct, T, rfl, c1, h1, _⟩ := trod_ints Tryz.underlying22 t1
  obtain ⟨pr, nr, cr, R, rfl, c2, h2, _⟩ := trod_ints Tryz.underlying22 t2
  obtain ⟨pv, nv, cv, V, rfl, c3, h3, _⟩ := trod_ints Tryz.underlying22 t3
  exact ⟨po, no, co, O, pt, nt, ct, T, pr, nr, cr, R, pv, nv, cv, V, rfl, h0, h1, h2, h3, c0, c1, c2, c3⟩
end
end Go.Proofs.YthlmcfbadhidbaaGreat
