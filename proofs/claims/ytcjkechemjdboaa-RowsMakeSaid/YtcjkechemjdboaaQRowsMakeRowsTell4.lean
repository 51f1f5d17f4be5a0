/- Texts of this claim, one behind the other: Edg4r, LTell4, Open5, Open4. -/
import Derived.Test.YtcjkechemjdboaaQRowsMakeRowsTell3
/- The reference's Edges and Own of rows. -/
namespace Go.Proofs.Ytcjkechemjdboaa
open Go Go.RowKit
def OwnQ (b : Nat) (no nt nr nv : Nat) (O T R V : List Int) (i : Nat) (v : Value) (W : World) : Prop :=
  match i with
  | 2 => ∃ q d, v = .slice q no d ∧ W.ownsRow b 3 1 (.slice q no d) no (encI O)
  | 5 => ∃ q d, v = .slice q nt d ∧ W.ownsRow b 3 1 (.slice q nt d) nt (encI T)
  | 8 => ∃ q d, v = .slice q nr d ∧ W.ownsRow b 3 1 (.slice q nr d) nr (encI R)
  | 11 => ∃ q d, v = .slice q nv d ∧ W.ownsRow b 3 1 (.slice q nv d) nv (encI V)
  | _ => True
theorem OwnQ_mono {b no nt nr nv : Nat} {O T R V : List Int} : ∀ i v W W', Ext W W' → OwnQ b no nt nr nv O T R V i v W → OwnQ b no nt nr nv O T R V i v W' := by
  intro i v W W' he h
  unfold OwnQ at *
  split at h <;> first | trivial | (obtain ⟨q, c, h1, h2⟩ := h; exact ⟨q, c, h1, he.own h2⟩)
set_option maxRecDepth 100000 in
set_option maxHeartbeats 4000000 in
theorem Own04 (po : Option Addr) (no co : Nat) (O : List Int) (pt : Option Addr) (nt ct : Nat) (T : List Int) (pr : Option Addr) (nr cr : Nat) (R : List Int) (pv : Option Addr) (nv cv : Nat) (V : List Int) (w : World) (hO : Rd w 1 po no (encI O)) (hT : Rd w 1 pt nt (encI T)) (hR : Rd w 1 pr nr (encI R)) (hV : Rd w 1 pv nv (encI V)) (b1 : no ≤ 100000) (b2 : nt ≤ 100000) (b3 : nr ≤ 100000) (b4 : nv ≤ 100000) :
    Calls Try.prog 48 #[.agg #[.slice po no co, .slice pt nt ct, .slice pr nr cr, .slice pv nv cv]] w fun e w' => ∃ qo do' qt dt qr dr qv dv, e = .returned (.agg #[.slice qo no do', .slice qt nt dt, .slice qr nr dr, .slice qv nv dv]) ∧ R4 w' qo no qt nt qr nr qv nv O T R V ∧ nt ≤ dt ∧ nv ≤ dv ∧ Ext w w' := by
  have HO := Lib.hid (fun W1 (h : Ext w W1) => OwnI01 po no co O W1 (hO.ext h) (by omega))
  have HT := Lib.hid (fun W1 (h : Ext w W1) => OwnI01 pt nt ct T W1 (hT.ext h) (by omega))
  have HR := Lib.hid (fun W1 (h : Ext w W1) => OwnI01 pr nr cr R W1 (hR.ext h) (by omega))
  have HV := Lib.hid (fun W1 (h : Ext w W1) => OwnI01 pv nv cv V W1 (hV.ext h) (by omega))
  have D1 := Lib.hid b1
  have D2 := Lib.hid b2
  have D3 := Lib.hid b3
  have D4 := Lib.hid b4
  obtain ⟨X, hX⟩ : ∃ X, X = (w.alloc (.cells #[.slice po no co, .slice pt nt ct, .slice pr nr cr, .slice pv nv cv] 52)).alloc (.cells #[.slice none 0 0, .slice none 0 0, .slice none 0 0, .slice none 0 0] 52) := ⟨_, rfl⟩
  have S0 := Lib.hid (hX ▸ (((Sep.start w).al #[.slice po no co, .slice pt nt ct, .slice pr nr cr, .slice pv nv cv] 52 w.heap.size rfl).al #[.slice none 0 0, .slice none 0 0, .slice none 0 0, .slice none 0 0] 52 (w.heap.size + 1) (by simp)) : Sep w X _)
  clear hO hT hR hV b1 b2 b3 b4
  go_enter Try.func48, Try.ntmps48
  go_wp2
  rw [← hX]
  clear hX
  have az := (S0.out.blk 1 rfl).lt; have a0 := (S0.out.blk 1 rfl).cell 0; have a1 := (S0.out.blk 1 rfl).cell 1; have a2 := (S0.out.blk 1 rfl).cell 2; have a3 := (S0.out.blk 1 rfl).cell 3
  have x0 := fun x : ExtOf X => x.ext.cell a0
  have x1 := fun x : ExtOf X => x.ext.cell a1
  have x2 := fun x : ExtOf X => x.ext.cell a2
  have x3 := fun x : ExtOf X => x.ext.cell a3
  refine wp_region_mix [true, true, false, true, true, false, true, true, false, true, true, false] (OwnQ X.heap.size no nt nr nv O T R V) (by kernel_rfl) (by kernel_rfl) (by kernel_rfl) OwnQ_mono ?_
  simp only [nfM]
  repeat (go_big_quiet_step ((fail)))
  refine wpQuiet_nil ⟨⟨fun vs W1 hE hd => ?_, fun vs W1 hE hd => ?_, fun vs W1 hE hd => ?_, fun vs W1 hE hd => ?_, trivial⟩, fun vs W1 hE hkn => ?_⟩
  · simp [putM, execOp, go_sem]
    exact (HO.out _ (Ext.trans S0.out.ext hE)).mono fun e w' ⟨q, d, h1, S⟩ => ⟨_, h1, ⟨q, d, rfl, own_base (S.own 0 rfl) hE.size⟩, S.ext⟩
  · simp [putM, execOp, go_sem]
    exact (HT.out _ (Ext.trans S0.out.ext hE)).mono fun e w' ⟨q, d, h1, S⟩ => ⟨_, h1, ⟨q, d, rfl, own_base (S.own 0 rfl) hE.size⟩, S.ext⟩
  · simp [putM, execOp, go_sem]
    exact (HR.out _ (Ext.trans S0.out.ext hE)).mono fun e w' ⟨q, d, h1, S⟩ => ⟨_, h1, ⟨q, d, rfl, own_base (S.own 0 rfl) hE.size⟩, S.ext⟩
  · simp [putM, execOp, go_sem]
    exact (HV.out _ (Ext.trans S0.out.ext hE)).mono fun e w' ⟨q, d, h1, S⟩ => ⟨_, h1, ⟨q, d, rfl, own_base (S.own 0 rfl) hE.size⟩, S.ext⟩
  obtain ⟨⟨qo, do', k1, r1⟩, ⟨qt, dt, k2, r2⟩, ⟨qr, dr, k3, r3⟩, ⟨qv, dv, k4, r4⟩, _⟩ := hkn
  have c2 := own_cap r2
  have c4 := own_cap r4
  have SY := Lib.hid (S0.out.call hE)
  have Y1 := Lib.hid (S0.out.fresh hE r1 (Nat.le_refl _))
  have Y2 := Lib.hid (S0.out.fresh hE r2 (Nat.le_refl _))
  have Y3 := Lib.hid (S0.out.fresh hE r3 (Nat.le_refl _))
  have Y4 := Lib.hid (S0.out.fresh hE r4 (Nat.le_refl _))
  simp only [putM, k1, k2, k3, k4, List.length_cons, List.length_nil, Nat.zero_add, Nat.reduceAdd, List.drop_succ_cons, List.drop_zero]
  clear x0 x1 x2 x3 k1 k2 k3 k4 hE r1 r2 r3 r4 a0 a1 a2 a3 az
  have uz := (SY.out.blk 0 rfl).lt; have u0 := (SY.out.blk 0 rfl).cell 0; have u1 := (SY.out.blk 0 rfl).cell 1; have u2 := (SY.out.blk 0 rfl).cell 2; have u3 := (SY.out.blk 0 rfl).cell 3
  have uf0 := (SY.out.blk 0 rfl).frozen 0
  have uf1 := (SY.out.blk 0 rfl).frozen 1
  have uf2 := (SY.out.blk 0 rfl).frozen 2
  have uf3 := (SY.out.blk 0 rfl).frozen 3
  go_wp2
  have S7 := (((SY.out.set 0 rfl 0 (.slice qo no do')).set 0 rfl 1 (.slice qt nt dt)).set 0 rfl 2 (.slice qr nr dr)).set 0 rfl 3 (.slice qv nv dv)
  have b0 := (S7.blk 0 rfl).cell 0
  have b1 := (S7.blk 0 rfl).cell 1
  have b2 := (S7.blk 0 rfl).cell 2
  have b3 := (S7.blk 0 rfl).cell 3
  refine bodyPost_ret (v := .agg #[.slice qo no do', .slice qt nt dt, .slice qr nr dr, .slice qv nv dv]) (by simp [results, Try.results48, go_sem, b0, b1, b2, b3, Try.sizeOf52, Try.isAgg52]) rfl ⟨qo, do', qt, dt, qr, dr, qv, dv, rfl, ?_, c2, c4, S7.ext⟩
  exact ⟨((((Y1.out.set 1 rfl 0 (.slice qo no do')).set 1 rfl 1 (.slice qt nt dt)).set 1 rfl 2 (.slice qr nr dr)).set 1 rfl 3 (.slice qv nv dv)).rd 0 rfl (by have := D1.out; omega), ((((Y2.out.set 1 rfl 0 (.slice qo no do')).set 1 rfl 1 (.slice qt nt dt)).set 1 rfl 2 (.slice qr nr dr)).set 1 rfl 3 (.slice qv nv dv)).rd 0 rfl (by have := D2.out; omega), ((((Y3.out.set 1 rfl 0 (.slice qo no do')).set 1 rfl 1 (.slice qt nt dt)).set 1 rfl 2 (.slice qr nr dr)).set 1 rfl 3 (.slice qv nv dv)).rd 0 rfl (by have := D3.out; omega), ((((Y4.out.set 1 rfl 0 (.slice qo no do')).set 1 rfl 1 (.slice qt nt dt)).set 1 rfl 2 (.slice qr nr dr)).set 1 rfl 3 (.slice qv nv dv)).rd 0 rfl (by have := D4.out; omega)⟩
set_option maxRecDepth 100000 in
set_option maxHeartbeats 8000000 in
theorem Edges04_yes (po : Option Addr) (no co : Nat) (O : List Int) (pt : Option Addr) (nt ct : Nat) (T : List Int) (pr : Option Addr) (nr cr : Nat) (R : List Int) (pv : Option Addr) (nv cv : Nat) (V : List Int) (w : World) (hO : Rd w 1 po no (encI O)) (hT : Rd w 1 pt nt (encI T)) (hR : Rd w 1 pr nr (encI R)) (hV : Rd w 1 pv nv (encI V)) (hct : nt ≤ ct) (hcv : nv ≤ cv) (hck : checkR O T R V = true) :
    Calls Try.prog 52 #[.agg #[.slice po no co, .slice pt nt ct, .slice pr nr cr, .slice pv nv cv]] w fun e w' => ∃ q c, e = .returned (.tuple #[.slice q (edgL true O T).length c, .int .i64 (edgC true)]) ∧ Sep w w' [.own 71 2 q (edgL true O T).length c (encE (edgL true O T))] := by
  obtain ⟨i0, hi0, hz0, hz1, hz2⟩ := info_parts inf34
  have S0 := Lib.hid ((Sep.start w).al #[.slice po no co, .slice pt nt ct, .slice pr nr cr, .slice pv nv cv] 52 w.heap.size rfl)
  have HC := Lib.hid (fun W1 (h : Ext w W1) => Check04 po no co O pt nt ct T pr nr cr R pv nv cv V W1 (hO.ext h) (hT.ext h) (hR.ext h) (hV.ext h) hct hcv)
  rw [hck] at HC
  have h1 := (checkR_half hck).2.2.1
  have r := offB_parts (halfB_off h1)
  have HOK := offOk_of (halfB_off h1)
  have l1 := hO.nI
  have l2 := hT.nI
  have n1 := hO.small
  have L1 := Lib.hid l1
  have hpk : Hid (∀ k, k < O.length - 1 → ∀ j, (pairsK O T k ++ (rowX O T k).take j).length ≤ 2000) := fun k hk j => by
    have h := (pairs_prefix (O := O) (T := T) (j := j) hk).length_le
    unfold pairs at h
    rw [pairs_len HOK r.2.2.2.1 (O.length - 1) (by omega), r.2.2.2.2.1] at h
    omega
  have HR1 := Lib.hid (fun W1 (h : Ext w W1) k (hk : k + 1 < O.length) => row04 po no co O pt nt ct T k W1 (hO.ext h) (hT.ext h) hct HOK hk (by omega))
  have no200 : no ≤ 201 := by omega
  have rl2000 : ∀ k, (rowL O T k).length ≤ 2000 := fun k => by unfold rowL; rw [List.length_take, List.length_drop]; omega
  have RL := Lib.hid rl2000
  clear hO hT hR hV hck h1 r HOK l1 l2 rl2000
  show Calls _ _ _ _ fun e w' => ∃ q c, e = .returned (.tuple #[.slice q (pairs O T).length c, .int .i64 0]) ∧ Sep w w' [.own 71 2 q (pairs O T).length c (encE (pairs O T))]
  go_enter Try.func52, Try.ntmps52
  go_wp2_with (go_at_call 54; go_must (refine (HC.out _ S0.out.ext).mono ?_; rintro e w1 ⟨rfl, hb⟩; have S1 := Lib.hid (S0.out.call hb); have az := (S1.out.blk 0 rfl).lt; have a0 := (S1.out.blk 0 rfl).cell 0; have a1 := (S1.out.blk 0 rfl).cell 1; have a2 := (S1.out.blk 0 rfl).cell 2; have a3 := (S1.out.blk 0 rfl).cell 3; clear hb))
  go_loopw [4, 5, 6, 7] (fun out v _ _ wr => ∃ (k : Nat) (q : Option Addr) (c : Nat), k ≤ no - 1 ∧ v = .int .i64 k ∧ out = .slice q (pairsK O T k).length c ∧ Sep w wr [.own 71 2 q (pairsK O T k).length c (encE (pairsK O T k)), .blk w.heap.size 52 #[.slice po no co, .slice pt nt ct, .slice pr nr cr, .slice pv nv cv]]) (fun _ v _ _ _ => no - 1 - (intOf v).toNat)
  case atStart => exact ⟨0, none, 0, Nat.zero_le _, rfl, rfl, S1.out.nilrow _ _⟩
  case round =>
    clear S0 S1 a0 a1 a2 a3 az
    obtain ⟨k, q, c, hk, rfl, rfl, S⟩ := hrel
    have az := (S.blk 1 rfl).lt; have a0 := (S.blk 1 rfl).cell 0; have a1 := (S.blk 1 rfl).cell 1; have a2 := (S.blk 1 rfl).cell 2; have a3 := (S.blk 1 rfl).cell 3
    by_cases hlt : k < no - 1
    · have hkO : k + 1 < O.length := by have := L1.out; omega
      have t1 : (k:Int) + 1 < no := by omega
      have t0 : (0:Int) ≤ k := by omega
      have HRk := Lib.hid (fun W1 (h : Ext w W1) => HR1.out W1 h k hkO)
      have rlk := RL.out k
      have hpl := Lib.hid (hpk.out k (by omega))
      have hst := Lib.hid (fun j (hj : j < (rowL O T k).length) => rowX_take (O := O) (T := T) hj)
      have hend : Hid ((rowX O T k).take (rowL O T k).length = rowX O T k) := by unfold Hid rowX; rw [List.take_of_length_le (by simp)]
      have hps := Lib.hid (pairsK_step O T k)
      generalize rowL O T k = l at *
      generalize rowX O T k = xs at *
      generalize pairsK O T k = ps at *
      have SH := Lib.hid S; clear S
      go_wp2_with (go_at_call 86; go_must (refine (HRk.out _ SH.out.ext).mono ?_; rintro e w3 ⟨q2, c2, rfl, Z⟩; have P1 := Lib.hid (SH.out.comp Z); clear Z))
      go_loopw [4, 7] (fun out i wr => ∃ (j : Nat) (q : Option Addr) (c : Nat), j ≤ l.length ∧ i = .int .i64 j ∧ out = .slice q (ps ++ xs.take j).length c ∧ Sep w wr [.own 3 1 q2 l.length c2 (encI l), .own 71 2 q (ps ++ xs.take j).length c (encE (ps ++ xs.take j)), .blk w.heap.size 52 #[.slice po no co, .slice pt nt ct, .slice pr nr cr, .slice pv nv cv]]) (fun _ i _ => l.length - (intOf i).toNat)
      case atStart => exact ⟨0, q, c, Nat.zero_le _, rfl, by simp, by simpa using P1.out⟩
      case round =>
        clear SH P1 a0 a1 a2 a3 az
        obtain ⟨j, q, c, hj, rfl, rfl, S⟩ := hrel
        have pq := (S.rd 0 rfl (by omega)).ptr
        by_cases hlj : j < l.length
        · have g1 := (S.rd 0 rfl (by omega)).cI hlj
          have h0 := hpl.out j
          have hs : Hid (ps ++ xs.take (j + 1) = (ps ++ xs.take j) ++ [((k:Int), nth l j)]) := by unfold Hid; rw [hst.out j hlj, List.append_assoc]
          generalize ps ++ xs.take j = ys at *
          generalize nth l j = x at *
          have t2 : (0:Int) ≤ j := by omega
          have t3 : (j:Int) < l.length := by omega
          have SH := Lib.hid S; clear S
          go_wp2_with (at_builtin; go_must (refine wpList_append_sep rfl _ _ _ rfl 71 i0 _ 2 16 Try.underlying22 hi0 hz0 hz1 hz2 rfl (by omega) (SH.out.junk _) 1 q ys.length c _ rfl rfl _ 1 1 _ rfl (Rd.one2 _ _ _ _) (one_encE _) (by omega) (by omega) ?_; intro q' c' w' S' hsz; have S5 := Lib.hid S'; clear S' hsz))
          go_roundw
          case rel => exact ⟨j + 1, q', c', by omega, by go_num, by rw [hs.out, List.length_append]; rfl, by rw [hs.out, List.length_append, encE_append]; exact S5.out⟩
          case measure => simp [intOf]; omega
        · obtain rfl : j = l.length := by omega
          rw [hend.out, ← hps.out] at S
          rw [hend.out, ← hps.out]
          have SH := Lib.hid S; clear S
          go_wp2
          go_roundw
          case rel => exact ⟨k + 1, q, c, by omega, by go_num, rfl, SH.out.pick [1, 2] (by decide) rfl⟩
          case measure => simp [intOf]; omega
    · have hend : pairsK O T k = pairs O T := by
        unfold pairs
        rw [show O.length - 1 = k by have := L1.out; omega]
      rw [hend] at S
      rw [hend]
      have t1 : decide ((k:Int) + 1 < no) = false := by simp; omega
      have SH := Lib.hid S; clear S
      clear hend
      go_wp2
      go_ret2
      exact ⟨q, c, rfl, SH.out.pick [0] (by decide) rfl⟩
theorem Edges04 (po : Option Addr) (no co : Nat) (O : List Int) (pt : Option Addr) (nt ct : Nat) (T : List Int) (pr : Option Addr) (nr cr : Nat) (R : List Int) (pv : Option Addr) (nv cv : Nat) (V : List Int) (w : World) (hO : Rd w 1 po no (encI O)) (hT : Rd w 1 pt nt (encI T)) (hR : Rd w 1 pr nr (encI R)) (hV : Rd w 1 pv nv (encI V)) (hct : nt ≤ ct) (hcv : nv ≤ cv) :
    Calls Try.prog 52 #[.agg #[.slice po no co, .slice pt nt ct, .slice pr nr cr, .slice pv nv cv]] w fun e w' => ∃ q c, e = .returned (.tuple #[.slice q (edgL (checkR O T R V) O T).length c, .int .i64 (edgC (checkR O T R V))]) ∧ Sep w w' [.own 71 2 q (edgL (checkR O T R V) O T).length c (encE (edgL (checkR O T R V) O T))] := by
  cases hck : checkR O T R V with
  | true => exact Edges04_yes po no co O pt nt ct T pr nr cr R pv nv cv V w hO hT hR hV hct hcv hck
  | false =>
    have S0 := Lib.hid ((Sep.start w).al #[.slice po no co, .slice pt nt ct, .slice pr nr cr, .slice pv nv cv] 52 w.heap.size rfl)
    have HC := Lib.hid (fun W1 (h : Ext w W1) => Check04 po no co O pt nt ct T pr nr cr R pv nv cv V W1 (hO.ext h) (hT.ext h) (hR.ext h) (hV.ext h) hct hcv)
    rw [hck] at HC
    clear hO hT hR hV hck
    show Calls _ _ _ _ fun e w' => ∃ q c, e = .returned (.tuple #[.slice q 0 c, .int .i64 40]) ∧ Sep w w' [.own 71 2 q 0 c []]
    go_enter Try.func52, Try.ntmps52
    go_wp2_with (go_at_call 54; go_must (refine (HC.out _ S0.out.ext).mono ?_; rintro e w1 ⟨rfl, hb⟩; have S1 := Lib.hid (S0.out.call hb); have az := (S1.out.blk 0 rfl).lt; have a0 := (S1.out.blk 0 rfl).cell 0; have a1 := (S1.out.blk 0 rfl).cell 1; have a2 := (S1.out.blk 0 rfl).cell 2; have a3 := (S1.out.blk 0 rfl).cell 3; clear hb))
    go_ret2
    exact ⟨none, 0, rfl, ((Sep.start w).call S1.out.ext).nilrow _ _⟩
end Go.Proofs.Ytcjkechemjdboaa
/- The law RowsTell: rows are right, or not, and tell just these of a place, and just these edges. -/
namespace Go.Proofs.Ytcjkechemjdboaa
open Go Go.RowKit
theorem own_sm {w : World} {base : Nat} {e : TypeId} {size : Nat} {q : Option Addr} {n c : Nat} {xs : List Value} (h : w.ownsRow base e size (.slice q n c) n xs) : n ≤ 9223372036854775807 := by
  rcases h.2 with ⟨_, h2⟩ | ⟨g, cap, cur, h1, _, _, h3, h4, _⟩
  · omega
  · unfold maxLen at h4; omega
theorem Sep.rdx {w0 w : World} {Γ : List Pc} (S : Sep w0 w Γ) (i : Nat) {e : TypeId} {size : Nat} {q : Option Addr} {n c : Nat} {xs : List Value} (h : Γ[i]? = some (.own e size q n c xs)) : Rd w size q n xs := Rd.of_own (S.own i h) (own_sm (S.own i h))
theorem bigR_bd {O T R V : List Int} (h : bigR O T R V = false) : O.length ≤ 250 ∧ T.length ≤ 2100 ∧ R.length ≤ 250 ∧ V.length ≤ 2100 := by
  unfold bigR at h
  simp only [Bool.or_eq_false_iff, decide_eq_false_iff_not] at h
  omega
set_option maxRecDepth 100000 in
set_option maxHeartbeats 16000000 in
theorem lawTell4 (po : Option Addr) (no co : Nat) (O : List Int) (pt : Option Addr) (nt ct : Nat) (T : List Int) (pr : Option Addr) (nr cr : Nat) (R : List Int) (pv : Option Addr) (nv cv : Nat) (V : List Int) (v u : Int) (w : World) (hO : Rd w 1 po no (encI O)) (hT : Rd w 1 pt nt (encI T)) (hR : Rd w 1 pr nr (encI R)) (hV : Rd w 1 pv nv (encI V)) (hct : nt ≤ ct) (hcv : nv ≤ cv) : Calls Try.prog 11 #[.agg #[.slice po no co, .slice pt nt ct, .slice pr nr cr, .slice pv nv cv], .int .i64 v, .int .i64 u] w fun e w' => e = .returned (.bool true) ∧ Ext w w' := by
  have HBig := Lib.hid (fun W1 (h : Ext w W1) => Big04 po no co O pt nt ct T pr nr cr R pv nv cv V W1 (hO.ext h) (hT.ext h) (hR.ext h) (hV.ext h))
  have S0 := Lib.hid ((Sep.start w).al #[.slice po no co, .slice pt nt ct, .slice pr nr cr, .slice pv nv cv] 52 w.heap.size rfl)
  cases hbig : bigR O T R V with
  | true =>
    rw [hbig] at HBig
    clear hO hT hR hV
    go_enter Try.func11, Try.ntmps11
    go_wp2_with (go_at_call 40; go_must (refine (HBig.out _ S0.out.ext).mono ?_; rintro e w1 ⟨rfl, hb1⟩; have S1 := Lib.hid (S0.out.call hb1); have xz := (S1.out.blk 0 rfl).lt; have x0 := (S1.out.blk 0 rfl).cell 0; have x1 := (S1.out.blk 0 rfl).cell 1; have x2 := (S1.out.blk 0 rfl).cell 2; have x3 := (S1.out.blk 0 rfl).cell 3; clear hb1))
    go_ret
    exact ⟨rfl, S1.out.ext⟩
  | false =>
    rw [hbig] at HBig
    have hbd := bigR_bd hbig
    have l1 := hO.nI
    have l2 := hT.nI
    have l3 := hR.nI
    have l4 := hV.nI
    have HOwn := Lib.hid (fun W1 (h : Ext w W1) => Own04 po no co O pt nt ct T pr nr cr R pv nv cv V W1 (hO.ext h) (hT.ext h) (hR.ext h) (hV.ext h) (by omega) (by omega) (by omega) (by omega))
    have HOut := Lib.hid (fun W1 (h : Ext w W1) => OutG po no co O pt nt ct T pr nr cr R pv nv cv V W1 v (hO.ext h) (hT.ext h) (hR.ext h) (hV.ext h) hct hcv)
    have HIn := Lib.hid (fun W1 (h : Ext w W1) => InG po no co O pt nt ct T pr nr cr R pv nv cv V W1 v (hO.ext h) (hT.ext h) (hR.ext h) (hV.ext h) hct hcv)
    have HEd := Lib.hid (fun W1 (h : Ext w W1) => REdgesG po no co O pt nt ct T pr nr cr R pv nv cv V W1 (hO.ext h) (hT.ext h) (hR.ext h) (hV.ext h) hct hcv)
    have HCk := Lib.hid (fun W1 (h : Ext w W1) => CheckR po no co O pt nt ct T pr nr cr R pv nv cv V W1 (hO.ext h) (hT.ext h) (hR.ext h) (hV.ext h) hct hcv)
    have HHas := Lib.hid (fun W1 (h : Ext w W1) => HasG po no co O pt nt ct T pr nr cr R pv nv cv V W1 v u (hO.ext h) (hT.ext h) (hR.ext h) (hV.ext h) hct hcv)
    have HOut4 := Lib.hid (fun (qo : Option Addr) (do' : Nat) (qt : Option Addr) (dt : Nat) (qr : Option Addr) (dr : Nat) (qv : Option Addr) (dv : Nat) W1 (h : R4 W1 qo no qt nt qr nr qv nv O T R V) (h1 : nt ≤ dt) (h2 : nv ≤ dv) => Out04 qo no do' O qt nt dt T qr nr dr R qv nv dv V W1 v h.o h.t h.r h.v h1 h2)
    have HIn4 := Lib.hid (fun (qo : Option Addr) (do' : Nat) (qt : Option Addr) (dt : Nat) (qr : Option Addr) (dr : Nat) (qv : Option Addr) (dv : Nat) W1 (h : R4 W1 qo no qt nt qr nr qv nv O T R V) (h1 : nt ≤ dt) (h2 : nv ≤ dv) => In04 qo no do' O qt nt dt T qr nr dr R qv nv dv V W1 v h.o h.t h.r h.v h1 h2)
    have HEd4 := Lib.hid (fun (qo : Option Addr) (do' : Nat) (qt : Option Addr) (dt : Nat) (qr : Option Addr) (dr : Nat) (qv : Option Addr) (dv : Nat) W1 (h : R4 W1 qo no qt nt qr nr qv nv O T R V) (h1 : nt ≤ dt) (h2 : nv ≤ dv) => Edges04 qo no do' O qt nt dt T qr nr dr R qv nv dv V W1 h.o h.t h.r h.v h1 h2)
    have HCk4 := Lib.hid (fun (qo : Option Addr) (do' : Nat) (qt : Option Addr) (dt : Nat) (qr : Option Addr) (dr : Nat) (qv : Option Addr) (dv : Nat) W1 (h : R4 W1 qo no qt nt qr nr qv nv O T R V) (h1 : nt ≤ dt) (h2 : nv ≤ dv) => Check04 qo no do' O qt nt dt T qr nr dr R qv nv dv V W1 h.o h.t h.r h.v h1 h2)
    have HHas4 := Lib.hid (fun (qo : Option Addr) (do' : Nat) (qt : Option Addr) (dt : Nat) (qr : Option Addr) (dr : Nat) (qv : Option Addr) (dv : Nat) W1 (h : R4 W1 qo no qt nt qr nr qv nv O T R V) (h1 : nt ≤ dt) (h2 : nv ≤ dv) => Has04 qo no do' O qt nt dt T qr nr dr R qv nv dv V W1 v u h.o h.t h.r h.v h1 h2)
    have HSame := Lib.hid (fun (qo : Option Addr) (do' : Nat) (qt : Option Addr) (dt : Nat) (qr : Option Addr) (dr : Nat) (qv : Option Addr) (dv : Nat) W1 (h0 : Ext w W1) (h : R4 W1 qo no qt nt qr nr qv nv O T R V) => Same04T po no co O pt nt ct T pr nr cr R pv nv cv V qo no do' qt nt dt qr nr dr qv nv dv W1 (hO.ext h0) (hT.ext h0) (hR.ext h0) (hV.ext h0) h.o h.t h.r h.v)
    clear hO hT hR hV hbig hbd l1 l2 l3 l4
    generalize hasB (checkR O T R V) O T v u = hb at *
    generalize outL (checkR O T R V) O T v = L1 at *
    generalize outL (checkR O T R V) R V v = L2 at *
    generalize outB (checkR O T R V) O v = b1 at *
    generalize outB (checkR O T R V) R v = b2 at *
    generalize edgL (checkR O T R V) O T = L3 at *
    generalize edgC (checkR O T R V) = b3 at *
    generalize checkR O T R V = b4 at *
    go_enter Try.func11, Try.ntmps11
    go_wp2_with (first
      | (go_at_call 52; go_must (refine (HEd4.out qo do' qt dt qr dr qv dv _ (KO.out.ext S7.out.ext) C1 C2).mono ?_; rintro e w8 ⟨q8, c8, rfl, Z⟩; have S8 := Lib.hid (S7.out.comp Z); have x8z := Nat.lt_of_lt_of_le HB.out.lt S8.out.ext.size; have x80 := S8.out.ext.cell (HB.out.cell 0); have x81 := S8.out.ext.cell (HB.out.cell 1); have x82 := S8.out.ext.cell (HB.out.cell 2); have x83 := S8.out.ext.cell (HB.out.cell 3); have y8z := (S8.out.blk 6 rfl).lt; have y80 := (S8.out.blk 6 rfl).cell 0; have y81 := (S8.out.blk 6 rfl).cell 1; have y82 := (S8.out.blk 6 rfl).cell 2; have y83 := (S8.out.blk 6 rfl).cell 3; clear Z))
      | (go_at_call 51; go_must (refine (HEd.out _ (Ext.trans E2.out S6.out.ext)).mono ?_; rintro e w7 ⟨q7, c7, rfl, Z⟩; have S7 := Lib.hid (S6.out.comp Z); have x7z := Nat.lt_of_lt_of_le HB.out.lt S7.out.ext.size; have x70 := S7.out.ext.cell (HB.out.cell 0); have x71 := S7.out.ext.cell (HB.out.cell 1); have x72 := S7.out.ext.cell (HB.out.cell 2); have x73 := S7.out.ext.cell (HB.out.cell 3); have y7z := (S7.out.blk 5 rfl).lt; have y70 := (S7.out.blk 5 rfl).cell 0; have y71 := (S7.out.blk 5 rfl).cell 1; have y72 := (S7.out.blk 5 rfl).cell 2; have y73 := (S7.out.blk 5 rfl).cell 3; clear Z))
      | (go_at_call 50; go_must (refine (HIn4.out qo do' qt dt qr dr qv dv _ (KO.out.ext S5.out.ext) C1 C2).mono ?_; rintro e w6 ⟨q6, c6, rfl, Z⟩; have S6 := Lib.hid (S5.out.comp Z); have x6z := Nat.lt_of_lt_of_le HB.out.lt S6.out.ext.size; have x60 := S6.out.ext.cell (HB.out.cell 0); have x61 := S6.out.ext.cell (HB.out.cell 1); have x62 := S6.out.ext.cell (HB.out.cell 2); have x63 := S6.out.ext.cell (HB.out.cell 3); have y6z := (S6.out.blk 4 rfl).lt; have y60 := (S6.out.blk 4 rfl).cell 0; have y61 := (S6.out.blk 4 rfl).cell 1; have y62 := (S6.out.blk 4 rfl).cell 2; have y63 := (S6.out.blk 4 rfl).cell 3; clear Z))
      | (go_at_call 43; go_must (refine (HIn.out _ (Ext.trans E2.out S4.out.ext)).mono ?_; rintro e w5 ⟨q5, c5, rfl, Z⟩; have S5 := Lib.hid (S4.out.comp Z); have x5z := Nat.lt_of_lt_of_le HB.out.lt S5.out.ext.size; have x50 := S5.out.ext.cell (HB.out.cell 0); have x51 := S5.out.ext.cell (HB.out.cell 1); have x52 := S5.out.ext.cell (HB.out.cell 2); have x53 := S5.out.ext.cell (HB.out.cell 3); have y5z := (S5.out.blk 3 rfl).lt; have y50 := (S5.out.blk 3 rfl).cell 0; have y51 := (S5.out.blk 3 rfl).cell 1; have y52 := (S5.out.blk 3 rfl).cell 2; have y53 := (S5.out.blk 3 rfl).cell 3; clear Z))
      | (go_at_call 49; go_must (refine (HOut4.out qo do' qt dt qr dr qv dv _ (KO.out.ext S3.out.ext) C1 C2).mono ?_; rintro e w4 ⟨q4, c4, rfl, Z⟩; have S4 := Lib.hid (S3.out.comp Z); have x4z := Nat.lt_of_lt_of_le HB.out.lt S4.out.ext.size; have x40 := S4.out.ext.cell (HB.out.cell 0); have x41 := S4.out.ext.cell (HB.out.cell 1); have x42 := S4.out.ext.cell (HB.out.cell 2); have x43 := S4.out.ext.cell (HB.out.cell 3); have y4z := (S4.out.blk 2 rfl).lt; have y40 := (S4.out.blk 2 rfl).cell 0; have y41 := (S4.out.blk 2 rfl).cell 1; have y42 := (S4.out.blk 2 rfl).cell 2; have y43 := (S4.out.blk 2 rfl).cell 3; clear Z))
      | (go_at_call 42; go_must (refine (HOut.out _ (Ext.trans E2.out S2.out.ext)).mono ?_; rintro e w3 ⟨q3, c3, rfl, Z⟩; have S3 := Lib.hid (S2.out.comp Z); have x3z := Nat.lt_of_lt_of_le HB.out.lt S3.out.ext.size; have x30 := S3.out.ext.cell (HB.out.cell 0); have x31 := S3.out.ext.cell (HB.out.cell 1); have x32 := S3.out.ext.cell (HB.out.cell 2); have x33 := S3.out.ext.cell (HB.out.cell 3); have y3z := (S3.out.blk 1 rfl).lt; have y30 := (S3.out.blk 1 rfl).cell 0; have y31 := (S3.out.blk 1 rfl).cell 1; have y32 := (S3.out.blk 1 rfl).cell 2; have y33 := (S3.out.blk 1 rfl).cell 3; clear Z))
      | (go_at_call 48; go_must (refine (HOwn.out _ S1.out.ext).mono ?_; rintro e wo ⟨qo, do', qt, dt, qr, dr, qv, dv, rfl, k1, C1, C2, k2⟩; have KO := Lib.hid k1; have E2 := Lib.hid (Ext.trans S1.out.ext k2); have HB := Lib.hid ((S1.out.call k2).blk 0 rfl); have S2 := Lib.hid ((Sep.start wo).al #[.slice qo no do', .slice qt nt dt, .slice qr nr dr, .slice qv nv dv] 52 wo.heap.size rfl); have x20 := k2.cell x0; have x21 := k2.cell x1; have x22 := k2.cell x2; have x23 := k2.cell x3; have x2z := HB.out.lt; clear k1 k2))
      | (go_at_call 40; go_must (refine (HBig.out _ S0.out.ext).mono ?_; rintro e w1 ⟨rfl, hb1⟩; have S1 := Lib.hid (S0.out.call hb1); have xz := (S1.out.blk 0 rfl).lt; have x0 := (S1.out.blk 0 rfl).cell 0; have x1 := (S1.out.blk 0 rfl).cell 1; have x2 := (S1.out.blk 0 rfl).cell 2; have x3 := (S1.out.blk 0 rfl).cell 3; clear hb1)))
    clear S0 S1 S2 S3 S4 S5 S6 S7 HOut HIn HEd HOut4 HIn4 HEd4 HBig HOwn
    have I1 := Lib.hid (fun x : ExtOf w8 => IntsY _ _ _ _ c3 c4 L1 x.val ((S8.out.rdx 5 rfl).ext x.ext) ((S8.out.rdx 4 rfl).ext x.ext))
    have I2 := Lib.hid (fun x : ExtOf w8 => IntsY _ _ _ _ c5 c6 L2 x.val ((S8.out.rdx 3 rfl).ext x.ext) ((S8.out.rdx 2 rfl).ext x.ext))
    have I3 := Lib.hid (fun x : ExtOf w8 => SameEdgesT _ _ _ c7 c8 L3 x.val ((S8.out.rdx 1 rfl).ext x.ext) ((S8.out.rdx 0 rfl).ext x.ext))
    have J1 := Lib.hid (fun x : ExtOf w8 => HCk.out x.val (Ext.trans (Ext.trans E2.out S8.out.ext) x.ext))
    have J2 := Lib.hid (fun x : ExtOf w8 => HCk4.out qo do' qt dt qr dr qv dv x.val ((KO.out.ext S8.out.ext).ext x.ext) C1 C2)
    have J3 := Lib.hid (fun x : ExtOf w8 => HHas.out x.val (Ext.trans (Ext.trans E2.out S8.out.ext) x.ext))
    have J4 := Lib.hid (fun x : ExtOf w8 => HHas4.out qo do' qt dt qr dr qv dv x.val ((KO.out.ext S8.out.ext).ext x.ext) C1 C2)
    have z0 := fun x : ExtOf w8 => x.ext.cell x80
    have z1 := fun x : ExtOf w8 => x.ext.cell x81
    have z2 := fun x : ExtOf w8 => x.ext.cell x82
    have z3 := fun x : ExtOf w8 => x.ext.cell x83
    have t0 := fun x : ExtOf w8 => x.ext.cell y80
    have t1 := fun x : ExtOf w8 => x.ext.cell y81
    have t2 := fun x : ExtOf w8 => x.ext.cell y82
    have t3 := fun x : ExtOf w8 => x.ext.cell y83
    refine wp_region_ext (by kernel_rfl) (by kernel_rfl) ?_
    repeat (go_big_quiet_step (((first | (go_at_call 24; first | with_reducible exact Calls.ext_of (I1.out _) | with_reducible exact Calls.ext_of (I2.out _)) | (go_at_call 53; exact Calls.ext_of (I3.out _)) | (go_at_call 41; exact Calls.ext_of (J1.out _)) | (go_at_call 54; exact Calls.ext_of (J2.out _)) | (go_at_call 44; exact Calls.ext_of (J3.out _)) | (go_at_call 55; exact Calls.ext_of (J4.out _))))))
    refine wpQuiet_nil ?_
    rintro w9 ⟨⟨_, hb9⟩, rfl⟩
    have S9 := Lib.hid ((S8.out.call hb9).pick [5, 3, 6] (by decide) rfl)
    clear S8 I1 I2 I3 J1 J2 J3 J4 z0 z1 z2 z3 t0 t1 t2 t3 HCk HHas HCk4 HHas4 hb9
    clear x1 x2 x3 x0 xz x20 x21 x22 x23 x2z x30 x31 x32 x33 x3z x40 x41 x42 x43 x4z x50 x51 x52 x53 x5z x60 x61 x62 x63 x6z x70 x71 x72 x73 x7z x80 x81 x82 x83 x8z
    clear y30 y31 y32 y33 y3z y40 y41 y42 y43 y4z y50 y51 y52 y53 y5z y60 y61 y62 y63 y6z y70 y71 y72 y73 y7z y80 y81 y82 y83 y8z
    go_wp2
    go_loopw [21] (fun i wr => ∃ (k : Nat) (xs ys : List Value), k ≤ L1.length ∧ i = .int .i64 k ∧ Sep wo wr [.own 3 1 q3 L1.length c3 xs, .own 3 1 q5 L2.length c5 ys, .blk wo.heap.size 52 #[.slice qo no do', .slice qt nt dt, .slice qr nr dr, .slice qv nv dv]]) (fun i _ => L1.length - (intOf i).toNat)
    case atStart => exact ⟨0, _, _, Nat.zero_le _, rfl, S9.out⟩
    case round =>
      clear S9
      obtain ⟨k, xs, ys, hk, rfl, S⟩ := hrel
      by_cases hlt : k < L1.length
      · have p2 := (S.rdx 0 rfl).ptr
        have p3 := (S.rdx 0 rfl).small
        have k1 := own_frozen (S.own 0 rfl) (by omega) k
        have e1 := own_cell (S.own 0 rfl) (k := k) (by omega)
        have d1 : (0:Int) ≤ k := by omega
        have d2 : (k:Int) < L1.length := by omega
        have SH := Lib.hid S; clear S
        go_wp2
        go_roundw
        case rel => exact ⟨k + 1, _, ys, by omega, by go_num, SH.out.setRow 0 rfl k (by omega) _⟩
        case measure => simp [intOf]; omega
      · have SH := Lib.hid S; clear S
        go_wp2
        go_loopw [22] (fun i wr => ∃ (k : Nat) (xs ys : List Value), k ≤ L2.length ∧ i = .int .i64 k ∧ Sep wo wr [.own 3 1 q3 L1.length c3 xs, .own 3 1 q5 L2.length c5 ys, .blk wo.heap.size 52 #[.slice qo no do', .slice qt nt dt, .slice qr nr dr, .slice qv nv dv]]) (fun i _ => L2.length - (intOf i).toNat)
        case atStart => exact ⟨0, xs, ys, Nat.zero_le _, rfl, SH.out⟩
        case round =>
          clear SH hlt
          obtain ⟨k, xs, ys, hk, rfl, S⟩ := hrel
          by_cases hlt : k < L2.length
          · have p2 := (S.rdx 1 rfl).ptr
            have p3 := (S.rdx 1 rfl).small
            have k1 := own_frozen (S.own 1 rfl) (by omega) k
            have e1 := own_cell (S.own 1 rfl) (k := k) (by omega)
            have d1 : (0:Int) ≤ k := by omega
            have d2 : (k:Int) < L2.length := by omega
            have SH := Lib.hid S; clear S
            go_wp2
            go_roundw
            case rel => exact ⟨k + 1, xs, _, by omega, by go_num, SH.out.setRow 1 rfl k (by omega) _⟩
            case measure => simp [intOf]; omega
          · have SH := Lib.hid S; clear S
            go_wp2_with (first
              | (go_at_call 39; go_must (refine (HSame.out qo do' qt dt qr dr qv dv _ (Ext.trans E2.out P1.out.ext) (KO.out.ext P1.out.ext)).mono ?_; rintro e w11 ⟨rfl, hb⟩; have P2 := Lib.hid (P1.out.call hb); clear hb))
              | (go_at_call 38; go_must (refine (Told _).mono ?_; rintro e w10 ⟨rfl, hb⟩; have P1 := Lib.hid (SH.out.call hb); have xz := Nat.lt_of_lt_of_le HB.out.lt P1.out.ext.size; have x0 := P1.out.ext.cell (HB.out.cell 0); have x1 := P1.out.ext.cell (HB.out.cell 1); have x2 := P1.out.ext.cell (HB.out.cell 2); have x3 := P1.out.ext.cell (HB.out.cell 3); have yz := (P1.out.blk 2 rfl).lt; have y0 := (P1.out.blk 2 rfl).cell 0; have y1 := (P1.out.blk 2 rfl).cell 1; have y2 := (P1.out.blk 2 rfl).cell 2; have y3 := (P1.out.blk 2 rfl).cell 3; clear hb)))
            go_ret
            exact ⟨rfl, Ext.trans E2.out P2.out.ext⟩
end Go.Proofs.Ytcjkechemjdboaa
/- Arguments that are rows of numbers, of texts, of postings: what they read. -/
namespace Go.Proofs.Ytcjkechemjdboaa
open Go Go.RowKit Go.ChangeShapes Go.WideShapes Go.ChangeAt Go.Deep Go.Joins
section
variable {H : Type} {enc : TypeId × Value → H} {w : World} {base : Nat} {spare : Nat → Bool} {held : Bool}
theorem trod_ints {t : TypeId} {fuel : Nat} {v : Value} {x : DataW H × List MemPlace} (ht : Try.prog.underlying t = some (.slice 3)) (h : DataW.trod enc Try.prog w base spare held fuel t [v] = some x) :
    ∃ p n c l, v = .slice p n c ∧ n ≤ c ∧ Rd w 1 p n (encI l) ∧ ∀ x ∈ l, I64 x := by
  rcases open_slice ht h with h0 | ⟨a, len, cap, m, n, D, Pl, hcs, hb, hl, hm, hmm, hx, hi⟩
  · obtain ⟨h0, _⟩ := h0; simp at h0; exact ⟨none, 0, 0, [], h0, Nat.le_refl _, Rd.nil _ _ _, fun x hx => nomatch hx⟩
  · simp at hcs
    have hl2 : len ≤ 9223372036854775807 := by unfold maxLen at hm; omega
    have hc1 : Try.prog.cellsOf 3 = 1 := by kernel_rfl
    rw [hc1] at hi
    have hS : ∀ i, i < len → ∃ s : Int, w.cell? (a.add i) = some (.int .i64 s) ∧ I64 s := by
      intro i hil
      obtain ⟨cs', hc, ht'⟩ := hi i (by rw [hmm]; split <;> omega)
      obtain ⟨s, e1, _, hw⟩ := DataW.trod_int Try.underlying3 ht'
      obtain ⟨_, hcl, hat⟩ := World.cells?_some hc
      have := hat 0 (by decide)
      rw [Go.Deep.add_add, Nat.mul_one, Nat.add_zero, e1] at this
      exact ⟨s, this, hw⟩
    obtain ⟨l, hll, hlc⟩ := exists_list hS
    refine ⟨some a, len, cap, l, hcs, hl, Rd.of_cells (by decide) (by rw [encI_len, hll, Nat.mul_one]) hl2 fun j hj => ?_, fun x hx => ?_⟩
    · rw [encI_get l j (by omega)]
      exact (hlc j (by omega)).1
    · obtain ⟨j, hj, rfl⟩ := List.mem_iff_getElem.1 hx
      rw [← nth_eq hj]
      exact (hlc j (by omega)).2
theorem trod_texts {t : TypeId} {fuel : Nat} {v : Value} {x : DataW H × List MemPlace} (ht : Try.prog.underlying t = some (.slice 9)) (h : DataW.trod enc Try.prog w base spare held fuel t [v] = some x) :
    ∃ p n c l, v = .slice p n c ∧ n ≤ c ∧ Rd w 1 p n (encS l) := by
  obtain ⟨p, n, c, l, rfl, hr⟩ := open_texts ht h
  refine ⟨p, n, c, l, rfl, ?_, hr⟩
  rcases open_slice ht h with h0 | ⟨a, len, cap, m, n', D, Pl, hcs, hb, hl, _⟩
  · obtain ⟨h0, _⟩ := h0; simp at h0; omega
  · simp at hcs; omega
set_option maxRecDepth 100000 in
theorem trod_postings {t : TypeId} {fuel : Nat} {v : Value} {x : DataW H × List MemPlace} (ht : Try.prog.underlying t = some (.slice 69)) (h : DataW.trod enc Try.prog w base spare held fuel t [v] = some x) :
    ∃ p n c hs L, v = .slice p n c ∧ n ≤ c ∧ RdP w p n hs L ∧ ∀ q ∈ L, ∀ x ∈ q.2, I64 x := by
  rcases open_slice_fields ht Try.underlying69 (by kernel_rfl) (by kernel_rfl) h with h0 | ⟨a, len, cap, hcs, hl, hm, hi⟩
  · simp at h0; exact ⟨none, 0, 0, [], [], h0, Nat.le_refl _, ⟨rfl, .inl rfl, by omega, fun k hk => by omega, fun k hk => by omega, fun k hk => by omega⟩, fun q hq => nomatch hq⟩
  · simp at hcs
    have hl2 : len ≤ 9223372036854775807 := by unfold maxLen at hm; omega
    have hE : ∀ i, i < len → ∃ e : (ByteArray × List Int) × Hd, w.cell? (a.add (i * 2)) = some (.string e.1.1) ∧ w.cell? (a.add (i * 2 + 1)) = some (.slice e.2.p e.2.n e.2.c) ∧ Rd w 1 e.2.p e.2.n (encI e.1.2) ∧ ∀ x ∈ e.1.2, I64 x := by
      intro i hil
      obtain ⟨v1, y1, n1, c1, t1⟩ := hi i hil 0 _ rfl
      obtain ⟨v2, y2, n2, c2, t2⟩ := hi i hil 1 _ rfl
      obtain ⟨s, e1, _⟩ := DataW.trod_string Try.underlying9 t1
      obtain ⟨p, n', c', l, e2, _, hr, hI⟩ := trod_ints Try.underlying38 t2
      simp at e1
      subst e1 e2
      exact ⟨((s, l), ⟨p, n', c'⟩), c1, c2, hr, hI⟩
    obtain ⟨E, hEl, hEc⟩ := exists_list hE
    have hm : ∀ i, i < len → nth (E.map (·.1)) i = (nth E i).1 ∧ nth (E.map (·.2)) i = (nth E i).2 := fun i hil => by
      rw [nth_eq (l := E.map (·.1)) (by rw [List.length_map]; omega), nth_eq (l := E.map (·.2)) (by rw [List.length_map]; omega), nth_eq (l := E) (by omega)]; simp
    have hptr : SlP (some a) len := by
      rcases Nat.eq_zero_or_pos len with h0 | h0
      · exact .inl h0
      · have h1 := (hEc 0 h0).1
        exact .inr ⟨_, _, by rw [spot_of_cell (a := a) (by simpa [Addr.add] using h1)]⟩
    have hadr : ∀ i j, i < len → a.add (i * 2 + j) = adr (some a) (i * 2 + j) := by
      intro i j hil
      have h1 := (hEc 0 (by omega)).1
      have ha := spot_of_cell (a := a) (by simpa [Addr.add] using h1)
      generalize i * 2 + j = m
      rw [ha, adr_some]
      by_cases hj0 : m = 0
      · rw [hj0]; simp [Addr.add]
      · simp [Addr.add, hj0]
    refine ⟨some a, len, cap, E.map (·.2), E.map (·.1), hcs, hl, ⟨by simp [hEl], hptr, hl2, fun k hk => ?_, fun k hk => ?_, fun k hk => ?_⟩, fun q hq => ?_⟩
    · rw [(hm k hk).1, ← Nat.add_zero (k * 2), ← hadr k 0 hk]; exact (hEc k hk).1
    · rw [(hm k hk).2, ← hadr k 1 hk]; exact (hEc k hk).2.1
    · rw [(hm k hk).1, (hm k hk).2]; exact (hEc k hk).2.2.1
    · obtain ⟨e, he, rfl⟩ := List.mem_map.1 hq
      obtain ⟨j, hj, rfl⟩ := List.mem_iff_getElem.1 he
      rw [← nth_eq hj]
      exact (hEc j (by omega)).2.2.2
set_option maxRecDepth 100000 in
theorem open_top {t e : TypeId} {r : Reach} {b0 : Nat} {v : Value} {d : DataW H} {p : List MemPlace} (ht : Try.prog.underlying t = some (.slice e)) (hv : Value.okWide Try.prog w r b0 t v) (h : DataW.Trod enc Try.prog w base spare held t v d p) :
    ∃ fuel, DataW.trod enc Try.prog w base spare held fuel t [v] = some (d, p) := by
  obtain ⟨a, n, c, rfl⟩ := okWide_slice ht hv
  exact h
set_option maxRecDepth 100000 in
theorem open_introw {r : Reach} {b0 : Nat} {v : Value} {d : DataW H} {p : List MemPlace} (hv : Value.okWide Try.prog w r b0 38 v) (h : DataW.Trod enc Try.prog w base spare held 38 v d p) :
    ∃ p n c l, v = .slice p n c ∧ n ≤ c ∧ Rd w 1 p n (encI l) ∧ ∀ x ∈ l, I64 x := by
  obtain ⟨f, hf⟩ := open_top Try.underlying38 hv h
  exact trod_ints Try.underlying38 hf
set_option maxRecDepth 100000 in
theorem open_textrow {r : Reach} {b0 : Nat} {v : Value} {d : DataW H} {p : List MemPlace} (hv : Value.okWide Try.prog w r b0 35 v) (h : DataW.Trod enc Try.prog w base spare held 35 v d p) :
    ∃ p n c l, v = .slice p n c ∧ n ≤ c ∧ Rd w 1 p n (encS l) := by
  obtain ⟨f, hf⟩ := open_top Try.underlying35 hv h
  exact trod_texts Try.underlying35 hf
set_option maxRecDepth 100000 in
theorem open_postings {r : Reach} {b0 : Nat} {v : Value} {d : DataW H} {p : List MemPlace} (hv : Value.okWide Try.prog w r b0 28 v) (h : DataW.Trod enc Try.prog w base spare held 28 v d p) :
    ∃ p n c hs L, v = .slice p n c ∧ n ≤ c ∧ RdP w p n hs L ∧ ∀ q ∈ L, ∀ x ∈ q.2, I64 x := by
  obtain ⟨f, hf⟩ := open_top Try.underlying28 hv h
  exact trod_postings Try.underlying28 hf
end
end Go.Proofs.Ytcjkechemjdboaa
/- An argument that is rows, opened. -/
namespace Go.Proofs.Ytcjkechemjdboaa
open Go Go.RowKit Go.ChangeShapes Go.WideShapes Go.ChangeAt Go.Deep Go.Joins
section
variable {H : Type} {enc : TypeId × Value → H} {w : World} {base : Nat} {spare : Nat → Bool} {held : Bool}
set_option maxRecDepth 100000 in
theorem open_rowsarg {r : Reach} {b0 : Nat} {v : Value} {d : DataW H} {p : List MemPlace} (hv : Value.okWide Try.prog w r b0 52 v) (h : DataW.Trod enc Try.prog w base spare held 52 v d p) :
    ∃ po no co O pt nt ct T pr nr cr R pv nv cv V, v = .agg #[.slice po no co, .slice pt nt ct, .slice pr nr cr, .slice pv nv cv] ∧ Rd w 1 po no (encI O) ∧ Rd w 1 pt nt (encI T) ∧ Rd w 1 pr nr (encI R) ∧ Rd w 1 pv nv (encI V) ∧ no ≤ co ∧ nt ≤ ct ∧ nr ≤ cr ∧ nv ≤ cv := by
  obtain ⟨v0, v1, v2, v3, y0, y1, y2, y3, n, rfl, _, _, t0, t1, t2, t3⟩ := open_agg4 Try.underlying52 (by kernel_rfl) (by kernel_rfl) hv h
  obtain ⟨po, no, co, O, rfl, c0, h0, _⟩ := trod_ints Try.underlying38 t0
  obtain ⟨pt, nt, ct, T, rfl, c1, h1, _⟩ := trod_ints Try.underlying38 t1
  obtain ⟨pr, nr, cr, R, rfl, c2, h2, _⟩ := trod_ints Try.underlying38 t2
  obtain ⟨pv, nv, cv, V, rfl, c3, h3, _⟩ := trod_ints Try.underlying38 t3
  exact ⟨po, no, co, O, pt, nt, ct, T, pr, nr, cr, R, pv, nv, cv, V, rfl, h0, h1, h2, h3, c0, c1, c2, c3⟩
end
end Go.Proofs.Ytcjkechemjdboaa
