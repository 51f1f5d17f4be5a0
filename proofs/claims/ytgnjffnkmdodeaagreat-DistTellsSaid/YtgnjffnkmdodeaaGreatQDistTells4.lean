/- Texts of this claim, one behind the other: Edg4r, OwnSm, LTell4, LHalf8, Lev7r, Lev7s, Lev7t, PlainT, Ref8a, Ref8b, Ref8c, Ref8d, LTells8, Open, Post, Open5, Open4. -/
import Derived.Deep.LoopGhost
import Derived.ProofKit
import Derived.Deep.Slices
import Derived.Deep.Fields
import Derived.ChangeSame
import Derived.Lib.SmallJoins
import Derived.Below
import Derived.Carry
import Derived.OpenShut
import Derived.Test.YtgnjffnkmdodeaaGreatProg
import Derived.Test.YtgnjffnkmdodeaaGreatQDistTells3
/- The reference's Edges and Own of rows. -/
namespace Go.Proofs.YtgnjffnkmdodeaaGreat
open Go Go.RowKit
def OwnQ (b : Nat) (no nt nr nv : Nat) (O T R V : List Int) (i : Nat) (v : Value) (W : World) : Prop :=
  match i with
  | 2 => ∃ q d, v = .slice q no d ∧ W.ownsRow b 3 1 (.slice q no d) no (encI O)
  | 5 => ∃ q d, v = .slice q nt d ∧ W.ownsRow b 3 1 (.slice q nt d) nt (encI T)
  | 8 => ∃ q d, v = .slice q nr d ∧ W.ownsRow b 3 1 (.slice q nr d) nr (encI R)
  | 11 => ∃ q d, v = .slice q nv d ∧ W.ownsRow b 3 1 (.slice q nv d) nv (encI V)
  | _ => True
theorem OwnQ_mono {b no nt nr nv : Nat} {O T R V : List Int} : ∀ i v W W', Ext W W' → OwnQ b no nt nr nv O T R V i v W → OwnQ b no nt nr nv O T R V i v W' := by
  intro i v W W' he h
  unfold OwnQ at *
  split at h <;> first | trivial | (obtain ⟨q, c, h1, h2⟩ := h; exact ⟨q, c, h1, he.own h2⟩)
set_option maxRecDepth 100000 in
set_option maxHeartbeats 4000000 in
theorem Own04 (po : Option Addr) (no co : Nat) (O : List Int) (pt : Option Addr) (nt ct : Nat) (T : List Int) (pr : Option Addr) (nr cr : Nat) (R : List Int) (pv : Option Addr) (nv cv : Nat) (V : List Int) (w : World) (hO : Rd w 1 po no (encI O)) (hT : Rd w 1 pt nt (encI T)) (hR : Rd w 1 pr nr (encI R)) (hV : Rd w 1 pv nv (encI V)) (b1 : no ≤ 100000) (b2 : nt ≤ 100000) (b3 : nr ≤ 100000) (b4 : nv ≤ 100000) :
    Calls Tryz.prog 11 #[.agg #[.slice po no co, .slice pt nt ct, .slice pr nr cr, .slice pv nv cv]] w fun e w' => ∃ qo do' qt dt qr dr qv dv, e = .returned (.agg #[.slice qo no do', .slice qt nt dt, .slice qr nr dr, .slice qv nv dv]) ∧ R4 w' qo no qt nt qr nr qv nv O T R V ∧ nt ≤ dt ∧ nv ≤ dv ∧ Ext w w' := by
  have HO := Lib.hid (fun W1 (h : Ext w W1) => OwnI01 po no co O W1 (hO.ext h) (by omega))
  have HT := Lib.hid (fun W1 (h : Ext w W1) => OwnI01 pt nt ct T W1 (hT.ext h) (by omega))
  have HR := Lib.hid (fun W1 (h : Ext w W1) => OwnI01 pr nr cr R W1 (hR.ext h) (by omega))
  have HV := Lib.hid (fun W1 (h : Ext w W1) => OwnI01 pv nv cv V W1 (hV.ext h) (by omega))
  have D1 := Lib.hid b1
  have D2 := Lib.hid b2
  have D3 := Lib.hid b3
  have D4 := Lib.hid b4
  obtain ⟨X, hX⟩ : ∃ X, X = (w.alloc (.cells #[.slice po no co, .slice pt nt ct, .slice pr nr cr, .slice pv nv cv] 24)).alloc (.cells #[.slice none 0 0, .slice none 0 0, .slice none 0 0, .slice none 0 0] 24) := ⟨_, rfl⟩
  have S0 := Lib.hid (hX ▸ (((Sep.start w).al #[.slice po no co, .slice pt nt ct, .slice pr nr cr, .slice pv nv cv] 24 w.heap.size rfl).al #[.slice none 0 0, .slice none 0 0, .slice none 0 0, .slice none 0 0] 24 (w.heap.size + 1) (by simp)) : Sep w X _)
  clear hO hT hR hV b1 b2 b3 b4
  go_enter Tryz.func11, Tryz.ntmps11
  go_wp2
  rw [← hX]
  clear hX
  have az := (S0.out.blk 1 rfl).lt; have a0 := (S0.out.blk 1 rfl).cell 0; have a1 := (S0.out.blk 1 rfl).cell 1; have a2 := (S0.out.blk 1 rfl).cell 2; have a3 := (S0.out.blk 1 rfl).cell 3
  have x0 := fun x : ExtOf X => x.ext.cell a0
  have x1 := fun x : ExtOf X => x.ext.cell a1
  have x2 := fun x : ExtOf X => x.ext.cell a2
  have x3 := fun x : ExtOf X => x.ext.cell a3
  refine wp_region_mix [true, true, false, true, true, false, true, true, false, true, true, false] (OwnQ X.heap.size no nt nr nv O T R V) (by kernel_rfl) (by kernel_rfl) (by kernel_rfl) OwnQ_mono ?_
  simp only [nfM]
  repeat (go_big_quiet_step ((fail)))
  refine wpQuiet_nil ⟨⟨fun vs W1 hE hd => ?_, fun vs W1 hE hd => ?_, fun vs W1 hE hd => ?_, fun vs W1 hE hd => ?_, trivial⟩, fun vs W1 hE hkn => ?_⟩
  · simp [putM, execOp, go_sem]
    exact (HO.out _ (Ext.trans S0.out.ext hE)).mono fun e w' ⟨q, d, h1, S⟩ => ⟨_, h1, ⟨q, d, rfl, own_base (S.own 0 rfl) hE.size⟩, S.ext⟩
  · simp [putM, execOp, go_sem]
    exact (HT.out _ (Ext.trans S0.out.ext hE)).mono fun e w' ⟨q, d, h1, S⟩ => ⟨_, h1, ⟨q, d, rfl, own_base (S.own 0 rfl) hE.size⟩, S.ext⟩
  · simp [putM, execOp, go_sem]
    exact (HR.out _ (Ext.trans S0.out.ext hE)).mono fun e w' ⟨q, d, h1, S⟩ => ⟨_, h1, ⟨q, d, rfl, own_base (S.own 0 rfl) hE.size⟩, S.ext⟩
  · simp [putM, execOp, go_sem]
    exact (HV.out _ (Ext.trans S0.out.ext hE)).mono fun e w' ⟨q, d, h1, S⟩ => ⟨_, h1, ⟨q, d, rfl, own_base (S.own 0 rfl) hE.size⟩, S.ext⟩
  obtain ⟨⟨qo, do', k1, r1⟩, ⟨qt, dt, k2, r2⟩, ⟨qr, dr, k3, r3⟩, ⟨qv, dv, k4, r4⟩, _⟩ := hkn
  have c2 := own_cap r2
  have c4 := own_cap r4
  have SY := Lib.hid (S0.out.call hE)
  have Y1 := Lib.hid (S0.out.fresh hE r1 (Nat.le_refl _))
  have Y2 := Lib.hid (S0.out.fresh hE r2 (Nat.le_refl _))
  have Y3 := Lib.hid (S0.out.fresh hE r3 (Nat.le_refl _))
  have Y4 := Lib.hid (S0.out.fresh hE r4 (Nat.le_refl _))
  simp only [putM, k1, k2, k3, k4, List.length_cons, List.length_nil, Nat.zero_add, Nat.reduceAdd, List.drop_succ_cons, List.drop_zero]
  clear x0 x1 x2 x3 k1 k2 k3 k4 hE r1 r2 r3 r4 a0 a1 a2 a3 az
  have uz := (SY.out.blk 0 rfl).lt; have u0 := (SY.out.blk 0 rfl).cell 0; have u1 := (SY.out.blk 0 rfl).cell 1; have u2 := (SY.out.blk 0 rfl).cell 2; have u3 := (SY.out.blk 0 rfl).cell 3
  have uf0 := (SY.out.blk 0 rfl).frozen 0
  have uf1 := (SY.out.blk 0 rfl).frozen 1
  have uf2 := (SY.out.blk 0 rfl).frozen 2
  have uf3 := (SY.out.blk 0 rfl).frozen 3
  go_wp2
  have S7 := (((SY.out.set 0 rfl 0 (.slice qo no do')).set 0 rfl 1 (.slice qt nt dt)).set 0 rfl 2 (.slice qr nr dr)).set 0 rfl 3 (.slice qv nv dv)
  have b0 := (S7.blk 0 rfl).cell 0
  have b1 := (S7.blk 0 rfl).cell 1
  have b2 := (S7.blk 0 rfl).cell 2
  have b3 := (S7.blk 0 rfl).cell 3
  refine bodyPost_ret (v := .agg #[.slice qo no do', .slice qt nt dt, .slice qr nr dr, .slice qv nv dv]) (by simp [results, Tryz.results11, go_sem, b0, b1, b2, b3, Tryz.sizeOf24, Tryz.isAgg24]) rfl ⟨qo, do', qt, dt, qr, dr, qv, dv, rfl, ?_, c2, c4, S7.ext⟩
  exact ⟨((((Y1.out.set 1 rfl 0 (.slice qo no do')).set 1 rfl 1 (.slice qt nt dt)).set 1 rfl 2 (.slice qr nr dr)).set 1 rfl 3 (.slice qv nv dv)).rd 0 rfl (by have := D1.out; omega), ((((Y2.out.set 1 rfl 0 (.slice qo no do')).set 1 rfl 1 (.slice qt nt dt)).set 1 rfl 2 (.slice qr nr dr)).set 1 rfl 3 (.slice qv nv dv)).rd 0 rfl (by have := D2.out; omega), ((((Y3.out.set 1 rfl 0 (.slice qo no do')).set 1 rfl 1 (.slice qt nt dt)).set 1 rfl 2 (.slice qr nr dr)).set 1 rfl 3 (.slice qv nv dv)).rd 0 rfl (by have := D3.out; omega), ((((Y4.out.set 1 rfl 0 (.slice qo no do')).set 1 rfl 1 (.slice qt nt dt)).set 1 rfl 2 (.slice qr nr dr)).set 1 rfl 3 (.slice qv nv dv)).rd 0 rfl (by have := D4.out; omega)⟩
set_option maxRecDepth 100000 in
set_option maxHeartbeats 8000000 in
theorem Edges04_yes (po : Option Addr) (no co : Nat) (O : List Int) (pt : Option Addr) (nt ct : Nat) (T : List Int) (pr : Option Addr) (nr cr : Nat) (R : List Int) (pv : Option Addr) (nv cv : Nat) (V : List Int) (w : World) (hO : Rd w 1 po no (encI O)) (hT : Rd w 1 pt nt (encI T)) (hR : Rd w 1 pr nr (encI R)) (hV : Rd w 1 pv nv (encI V)) (hct : nt ≤ ct) (hcv : nv ≤ cv) (hck : checkR O T R V = true) :
    Calls Tryz.prog 80 #[.agg #[.slice po no co, .slice pt nt ct, .slice pr nr cr, .slice pv nv cv]] w fun e w' => ∃ q c, e = .returned (.tuple #[.slice q (edgL true O T).length c, .int .i64 (edgC true)]) ∧ Sep w w' [.own 53 2 q (edgL true O T).length c (encE (edgL true O T))] := by
  obtain ⟨i0, hi0, hz0, hz1, hz2⟩ := info_parts inf34
  have S0 := Lib.hid ((Sep.start w).al #[.slice po no co, .slice pt nt ct, .slice pr nr cr, .slice pv nv cv] 24 w.heap.size rfl)
  have HC := Lib.hid (fun W1 (h : Ext w W1) => Check04 po no co O pt nt ct T pr nr cr R pv nv cv V W1 (hO.ext h) (hT.ext h) (hR.ext h) (hV.ext h) hct hcv)
  rw [hck] at HC
  have h1 := (checkR_half hck).2.2.1
  have r := offB_parts (halfB_off h1)
  have HOK := offOk_of (halfB_off h1)
  have l1 := hO.nI
  have l2 := hT.nI
  have n1 := hO.small
  have L1 := Lib.hid l1
  have hpk : Hid (∀ k, k < O.length - 1 → ∀ j, (pairsK O T k ++ (rowX O T k).take j).length ≤ 2000) := fun k hk j => by
    have h := (pairs_prefix (O := O) (T := T) (j := j) hk).length_le
    unfold pairs at h
    rw [pairs_len HOK r.2.2.2.1 (O.length - 1) (by omega), r.2.2.2.2.1] at h
    omega
  have HR1 := Lib.hid (fun W1 (h : Ext w W1) k (hk : k + 1 < O.length) => row04 po no co O pt nt ct T k W1 (hO.ext h) (hT.ext h) hct HOK hk (by omega))
  have no200 : no ≤ 201 := by omega
  have rl2000 : ∀ k, (rowL O T k).length ≤ 2000 := fun k => by unfold rowL; rw [List.length_take, List.length_drop]; omega
  have RL := Lib.hid rl2000
  clear hO hT hR hV hck h1 r HOK l1 l2 rl2000
  show Calls _ _ _ _ fun e w' => ∃ q c, e = .returned (.tuple #[.slice q (pairs O T).length c, .int .i64 0]) ∧ Sep w w' [.own 53 2 q (pairs O T).length c (encE (pairs O T))]
  go_enter Tryz.func80, Tryz.ntmps80
  go_wp2_with (go_at_call 47; go_must (refine (HC.out _ S0.out.ext).mono ?_; rintro e w1 ⟨rfl, hb⟩; have S1 := Lib.hid (S0.out.call hb); have az := (S1.out.blk 0 rfl).lt; have a0 := (S1.out.blk 0 rfl).cell 0; have a1 := (S1.out.blk 0 rfl).cell 1; have a2 := (S1.out.blk 0 rfl).cell 2; have a3 := (S1.out.blk 0 rfl).cell 3; clear hb))
  go_loopw [4, 5, 6, 7] (fun out v _ _ wr => ∃ (k : Nat) (q : Option Addr) (c : Nat), k ≤ no - 1 ∧ v = .int .i64 k ∧ out = .slice q (pairsK O T k).length c ∧ Sep w wr [.own 53 2 q (pairsK O T k).length c (encE (pairsK O T k)), .blk w.heap.size 24 #[.slice po no co, .slice pt nt ct, .slice pr nr cr, .slice pv nv cv]]) (fun _ v _ _ _ => no - 1 - (intOf v).toNat)
  case atStart => exact ⟨0, none, 0, Nat.zero_le _, rfl, rfl, S1.out.nilrow _ _⟩
  case round =>
    clear S0 S1 a0 a1 a2 a3 az
    obtain ⟨k, q, c, hk, rfl, rfl, S⟩ := hrel
    have az := (S.blk 1 rfl).lt; have a0 := (S.blk 1 rfl).cell 0; have a1 := (S.blk 1 rfl).cell 1; have a2 := (S.blk 1 rfl).cell 2; have a3 := (S.blk 1 rfl).cell 3
    by_cases hlt : k < no - 1
    · have hkO : k + 1 < O.length := by have := L1.out; omega
      have t1 : (k:Int) + 1 < no := by omega
      have t0 : (0:Int) ≤ k := by omega
      have HRk := Lib.hid (fun W1 (h : Ext w W1) => HR1.out W1 h k hkO)
      have rlk := RL.out k
      have hpl := Lib.hid (hpk.out k (by omega))
      have hst := Lib.hid (fun j (hj : j < (rowL O T k).length) => rowX_take (O := O) (T := T) hj)
      have hend : Hid ((rowX O T k).take (rowL O T k).length = rowX O T k) := by unfold Hid rowX; rw [List.take_of_length_le (by simp)]
      have hps := Lib.hid (pairsK_step O T k)
      generalize rowL O T k = l at *
      generalize rowX O T k = xs at *
      generalize pairsK O T k = ps at *
      have SH := Lib.hid S; clear S
      go_wp2_with (go_at_call 65; go_must (refine (HRk.out _ SH.out.ext).mono ?_; rintro e w3 ⟨q2, c2, rfl, Z⟩; have P1 := Lib.hid (SH.out.comp Z); clear Z))
      go_loopw [4, 7] (fun out i wr => ∃ (j : Nat) (q : Option Addr) (c : Nat), j ≤ l.length ∧ i = .int .i64 j ∧ out = .slice q (ps ++ xs.take j).length c ∧ Sep w wr [.own 3 1 q2 l.length c2 (encI l), .own 53 2 q (ps ++ xs.take j).length c (encE (ps ++ xs.take j)), .blk w.heap.size 24 #[.slice po no co, .slice pt nt ct, .slice pr nr cr, .slice pv nv cv]]) (fun _ i _ => l.length - (intOf i).toNat)
      case atStart => exact ⟨0, q, c, Nat.zero_le _, rfl, by simp, by simpa using P1.out⟩
      case round =>
        clear SH P1 a0 a1 a2 a3 az
        obtain ⟨j, q, c, hj, rfl, rfl, S⟩ := hrel
        have pq := (S.rd 0 rfl (by omega)).ptr
        by_cases hlj : j < l.length
        · have g1 := (S.rd 0 rfl (by omega)).cI hlj
          have h0 := hpl.out j
          have hs : Hid (ps ++ xs.take (j + 1) = (ps ++ xs.take j) ++ [((k:Int), nth l j)]) := by unfold Hid; rw [hst.out j hlj, List.append_assoc]
          generalize ps ++ xs.take j = ys at *
          generalize nth l j = x at *
          have t2 : (0:Int) ≤ j := by omega
          have t3 : (j:Int) < l.length := by omega
          have SH := Lib.hid S; clear S
          go_wp2_with (at_builtin; go_must (refine wpList_append_sep rfl _ _ _ rfl 53 i0 _ 2 16 Tryz.underlying48 hi0 hz0 hz1 hz2 rfl (by omega) (SH.out.junk _) 1 q ys.length c _ rfl rfl _ 1 1 _ rfl (Rd.one2 _ _ _ _) (one_encE _) (by omega) (by omega) ?_; intro q' c' w' S' hsz; have S5 := Lib.hid S'; clear S' hsz))
          go_roundw
          case rel => exact ⟨j + 1, q', c', by omega, by go_num, by rw [hs.out, List.length_append]; rfl, by rw [hs.out, List.length_append, encE_append]; exact S5.out⟩
          case measure => simp [intOf]; omega
        · obtain rfl : j = l.length := by omega
          rw [hend.out, ← hps.out] at S
          rw [hend.out, ← hps.out]
          have SH := Lib.hid S; clear S
          go_wp2
          go_roundw
          case rel => exact ⟨k + 1, q, c, by omega, by go_num, rfl, SH.out.pick [1, 2] (by decide) rfl⟩
          case measure => simp [intOf]; omega
    · have hend : pairsK O T k = pairs O T := by
        unfold pairs
        rw [show O.length - 1 = k by have := L1.out; omega]
      rw [hend] at S
      rw [hend]
      have t1 : decide ((k:Int) + 1 < no) = false := by simp; omega
      have SH := Lib.hid S; clear S
      clear hend
      go_wp2
      go_ret2
      exact ⟨q, c, rfl, SH.out.pick [0] (by decide) rfl⟩
theorem Edges04 (po : Option Addr) (no co : Nat) (O : List Int) (pt : Option Addr) (nt ct : Nat) (T : List Int) (pr : Option Addr) (nr cr : Nat) (R : List Int) (pv : Option Addr) (nv cv : Nat) (V : List Int) (w : World) (hO : Rd w 1 po no (encI O)) (hT : Rd w 1 pt nt (encI T)) (hR : Rd w 1 pr nr (encI R)) (hV : Rd w 1 pv nv (encI V)) (hct : nt ≤ ct) (hcv : nv ≤ cv) :
    Calls Tryz.prog 80 #[.agg #[.slice po no co, .slice pt nt ct, .slice pr nr cr, .slice pv nv cv]] w fun e w' => ∃ q c, e = .returned (.tuple #[.slice q (edgL (checkR O T R V) O T).length c, .int .i64 (edgC (checkR O T R V))]) ∧ Sep w w' [.own 53 2 q (edgL (checkR O T R V) O T).length c (encE (edgL (checkR O T R V) O T))] := by
  cases hck : checkR O T R V with
  | true => exact Edges04_yes po no co O pt nt ct T pr nr cr R pv nv cv V w hO hT hR hV hct hcv hck
  | false =>
    have S0 := Lib.hid ((Sep.start w).al #[.slice po no co, .slice pt nt ct, .slice pr nr cr, .slice pv nv cv] 24 w.heap.size rfl)
    have HC := Lib.hid (fun W1 (h : Ext w W1) => Check04 po no co O pt nt ct T pr nr cr R pv nv cv V W1 (hO.ext h) (hT.ext h) (hR.ext h) (hV.ext h) hct hcv)
    rw [hck] at HC
    clear hO hT hR hV hck
    show Calls _ _ _ _ fun e w' => ∃ q c, e = .returned (.tuple #[.slice q 0 c, .int .i64 40]) ∧ Sep w w' [.own 53 2 q 0 c []]
    go_enter Tryz.func80, Tryz.ntmps80
    go_wp2_with (go_at_call 47; go_must (refine (HC.out _ S0.out.ext).mono ?_; rintro e w1 ⟨rfl, hb⟩; have S1 := Lib.hid (S0.out.call hb); have az := (S1.out.blk 0 rfl).lt; have a0 := (S1.out.blk 0 rfl).cell 0; have a1 := (S1.out.blk 0 rfl).cell 1; have a2 := (S1.out.blk 0 rfl).cell 2; have a3 := (S1.out.blk 0 rfl).cell 3; clear hb))
    go_ret2
    exact ⟨none, 0, rfl, ((Sep.start w).call S1.out.ext).nilrow _ _⟩
end Go.Proofs.YtgnjffnkmdodeaaGreat
/- An own row is small. -/
namespace Go.Proofs.YtgnjffnkmdodeaaGreat
open Go Go.RowKit
theorem own_sm {w : World} {base : Nat} {e : TypeId} {size : Nat} {q : Option Addr} {n c : Nat} {xs : List Value} (h : w.ownsRow base e size (.slice q n c) n xs) : n ≤ 9223372036854775807 := by
  rcases h.2 with ⟨_, h2⟩ | ⟨g, cap, cur, h1, _, _, h3, h4, _⟩
  · omega
  · unfold maxLen at h4; omega
theorem Sep.rdx {w0 w : World} {Γ : List Pc} (S : Sep w0 w Γ) (i : Nat) {e : TypeId} {size : Nat} {q : Option Addr} {n c : Nat} {xs : List Value} (h : Γ[i]? = some (.own e size q n c xs)) : Rd w size q n xs := Rd.of_own (S.own i h) (own_sm (S.own i h))
end Go.Proofs.YtgnjffnkmdodeaaGreat
/- The law RowsTell: rows are right, or not, and tell just these of a place, and just these edges. -/
namespace Go.Proofs.YtgnjffnkmdodeaaGreat
open Go Go.RowKit
theorem bigR_bd {O T R V : List Int} (h : bigR O T R V = false) : O.length ≤ 250 ∧ T.length ≤ 2100 ∧ R.length ≤ 250 ∧ V.length ≤ 2100 := by
  unfold bigR at h
  simp only [Bool.or_eq_false_iff, decide_eq_false_iff_not] at h
  omega
end Go.Proofs.YtgnjffnkmdodeaaGreat
/- The law DistHalf: Dist is 2 times Steps, or one less, if there is a walk; Steps is no more than places. -/
namespace Go.Proofs.YtgnjffnkmdodeaaGreat
open Go Go.RowKit
theorem pairC_zero {ck : Bool} {O : List Int} {s t : Int} (h : pairC ck O s t = 0) : ck = true ∧ ∃ n a b : Nat, O.length = n + 1 ∧ s = a ∧ t = b ∧ a < n ∧ b < n := by
  unfold pairC at h
  cases ck with
  | false => rw [if_neg (by simp)] at h; omega
  | true =>
    rw [if_pos rfl] at h
    by_cases h2 : (0 ≤ s ∧ s < (O.length : Int) - 1) ∧ 0 ≤ t ∧ t < (O.length : Int) - 1
    · exact ⟨rfl, O.length - 1, s.toNat, t.toNat, by omega, by omega, by omega, by omega, by omega⟩
    · rw [if_neg h2] at h; omega
theorem pairC_nn {ck : Bool} {O : List Int} {s t : Int} : 0 ≤ pairC ck O s t ∧ pairC ck O s t ≤ 40 := by
  unfold pairC; split
  · split <;> omega
  · omega
end Go.Proofs.YtgnjffnkmdodeaaGreat
/- The reference's levels: edges in a direction, Levels. -/
namespace Go.Proofs.YtgnjffnkmdodeaaGreat
open Go Go.RowKit
def edgB (ck back : Bool) (O T : List Int) : List (Int × Int) := if ck = true then edgD back O T else []
theorem pairs_le {O T : List Int} (h : halfB O T = true) : (pairs O T).length ≤ 2000 := by
  obtain ⟨r1, r2, r3, r4, r5, r6⟩ := offB_parts (halfB_off h)
  unfold pairs
  rw [pairs_len (offOk_of (halfB_off h)) r4 _ (by omega), r5]; omega
theorem edgD_len {O T : List Int} (h : halfB O T = true) (back : Bool) : (edgD back O T).length ≤ 2000 := by
  cases back with
  | false => exact pairs_le h
  | true => show ((pairs O T).map swapE).length ≤ 2000; rw [List.length_map]; exact pairs_le h
set_option maxRecDepth 100000 in
set_option maxHeartbeats 4000000 in
theorem edges07 (po : Option Addr) (no co : Nat) (O : List Int) (pt : Option Addr) (nt ct : Nat) (T : List Int) (pr : Option Addr) (nr cr : Nat) (R : List Int) (pv : Option Addr) (nv cv : Nat) (V : List Int) (w : World) (back : Bool) (hO : Rd w 1 po no (encI O)) (hT : Rd w 1 pt nt (encI T)) (hR : Rd w 1 pr nr (encI R)) (hV : Rd w 1 pv nv (encI V)) (hct : nt ≤ ct) (hcv : nv ≤ cv) : Calls Tryz.prog 56 #[.agg #[.slice po no co, .slice pt nt ct, .slice pr nr cr, .slice pv nv cv], .bool back] w fun e w' => ∃ q c, e = .returned (.tuple #[.slice q (edgB (checkR O T R V) back O T).length c, .int .i64 (edgC (checkR O T R V))]) ∧ Sep w w' [.own 53 2 q (edgB (checkR O T R V) back O T).length c (encE (edgB (checkR O T R V) back O T))] := by
  obtain ⟨i0, hi0, hz0, hz1, hz2⟩ := info_parts inf34
  have S0 := Lib.hid ((Sep.start w).al #[.slice po no co, .slice pt nt ct, .slice pr nr cr, .slice pv nv cv] 24 w.heap.size rfl)
  have HE := Lib.hid (fun W1 (h : Ext w W1) => Edges04 po no co O pt nt ct T pr nr cr R pv nv cv V W1 (hO.ext h) (hT.ext h) (hR.ext h) (hV.ext h) hct hcv)
  clear hO hT hR hV
  cases hck : checkR O T R V with
  | false =>
    rw [hck] at HE
    show Calls _ _ _ _ fun e w' => ∃ q c, e = .returned (.tuple #[.slice q 0 c, .int .i64 40]) ∧ Sep w w' [.own 53 2 q 0 c []]
    have HE2 : Hid (∀ W1, Ext w W1 → Calls Tryz.prog 80 #[.agg #[.slice po no co, .slice pt nt ct, .slice pr nr cr, .slice pv nv cv]] W1 fun e w' => ∃ q c, e = .returned (.tuple #[.slice q 0 c, .int .i64 40]) ∧ Sep W1 w' [.own 53 2 q 0 c []]) := HE.out
    clear hck HE
    cases back <;>
    (go_enter Tryz.func56, Tryz.ntmps56
     go_wp2_with (go_at_call 80; go_must (refine (HE2.out _ S0.out.ext).mono ?_; rintro e w1 ⟨q, c, rfl, Z⟩; have S1 := Lib.hid (S0.out.comp Z); clear Z))
     go_ret2
     exact ⟨q, c, rfl, S1.out.pick [0] (by decide) rfl⟩)
  | true =>
    rw [hck] at HE
    have hl := pairs_le (checkR_half hck).2.2.1
    have HE2 : Hid (∀ W1, Ext w W1 → Calls Tryz.prog 80 #[.agg #[.slice po no co, .slice pt nt ct, .slice pr nr cr, .slice pv nv cv]] W1 fun e w' => ∃ q c, e = .returned (.tuple #[.slice q (pairs O T).length c, .int .i64 0]) ∧ Sep W1 w' [.own 53 2 q (pairs O T).length c (encE (pairs O T))]) := HE.out
    clear hck HE
    cases back with
    | false =>
      show Calls _ _ _ _ fun e w' => ∃ q c, e = .returned (.tuple #[.slice q (pairs O T).length c, .int .i64 0]) ∧ Sep w w' [.own 53 2 q (pairs O T).length c (encE (pairs O T))]
      generalize pairs O T = P at *
      go_enter Tryz.func56, Tryz.ntmps56
      go_wp2_with (go_at_call 80; go_must (refine (HE2.out _ S0.out.ext).mono ?_; rintro e w1 ⟨q, c, rfl, Z⟩; have S1 := Lib.hid (S0.out.comp Z); clear Z))
      go_ret2
      exact ⟨q, c, rfl, S1.out.pick [0] (by decide) rfl⟩
    | true =>
      show Calls _ _ _ _ fun e w' => ∃ q c, e = .returned (.tuple #[.slice q ((pairs O T).map swapE).length c, .int .i64 0]) ∧ Sep w w' [.own 53 2 q ((pairs O T).map swapE).length c (encE ((pairs O T).map swapE))]
      generalize pairs O T = P at *
      go_enter Tryz.func56, Tryz.ntmps56
      go_wp2_with (go_at_call 80; go_must (refine (HE2.out _ S0.out.ext).mono ?_; rintro e w1 ⟨q, c, rfl, Z⟩; have S1 := Lib.hid ((S0.out.comp Z).pick [0] (by decide) rfl); clear Z))
      go_loopw [8, 9] (fun out i wr => ∃ (k : Nat) (q2 : Option Addr) (c2 : Nat), k ≤ P.length ∧ i = .int .i64 k ∧ out = .slice q2 k c2 ∧ Sep w wr [.own 53 2 q2 k c2 (encE ((P.take k).map swapE)), .own 53 2 q P.length c (encE P)]) (fun _ i _ => P.length - (intOf i).toNat)
      case atStart => exact ⟨0, none, 0, Nat.zero_le _, rfl, rfl, S1.out.nilrow _ _⟩
      case round =>
        clear S0 S1
        obtain ⟨k, q2, c2, hk, rfl, rfl, S⟩ := hrel
        have pq := (S.rd 1 rfl (by omega)).ptr
        have pq2 := (S.rd 0 rfl (by omega)).ptr
        by_cases hlt : k < P.length
        · have e1 := (S.rd 1 rfl (by omega)).cE hlt
          have e2 := (S.rd 1 rfl (by omega)).cE2 hlt
          have d1 : (0:Int) ≤ k := by omega
          have d2 : (k:Int) < P.length := by omega
          have HT : Hid (encE ((P.take (k + 1)).map swapE) = encE ((P.take k).map swapE) ++ encE [swapE (nth P k)]) := by
            unfold Hid; rw [map_take_succ swapE P k hlt, encE_append]
          have SH := Lib.hid S; clear S
          go_wp2
          have xe1 := fun x : ExtOf wr => x.ext.cell e1
          have xe2 := fun x : ExtOf wr => x.ext.cell e2
          refine wp_region_mix [true, true, true, true, true, true, true, true, true, true, true, true, false] (fun _ v W => ∃ p, v = .slice p 1 1 ∧ Rd W 2 p 1 (encE [swapE (nth P k)])) (by kernel_rfl) (by kernel_rfl) (by kernel_rfl) (fun _ _ _ _ hE ⟨p, h1, h2⟩ => ⟨p, h1, h2.ext hE⟩) ?_
          simp only [nfM]
          repeat (go_big_quiet_step ((fail)))
          refine wpQuiet_nil ⟨⟨fun vs W1 hE hd => ?_, trivial⟩, fun vs W1 hE hkn => ?_⟩
          · simp [putM, execOp, go_sem]
            exact ⟨Rd.one2 _ _ _ _, Ext.alloc (Below.refl _ _) _⟩
          · obtain ⟨⟨p', hv, RA⟩, _⟩ := hkn
            have HRA := Lib.hid RA; clear RA
            have S1 := Lib.hid (SH.out.call hE)
            simp only [putM, hv, List.length_cons, List.length_nil, Nat.zero_add, Nat.reduceAdd, List.drop_succ_cons, List.drop_zero]
            clear xe1 xe2 hv
            go_wp2_with (at_builtin; go_must (refine wpList_append_sep rfl _ _ _ rfl 53 i0 _ 2 16 Tryz.underlying48 hi0 hz0 hz1 hz2 rfl (by omega) S1.out 0 q2 k c2 _ rfl rfl p' 1 1 _ rfl HRA.out (one_encE _) (by omega) (by omega) ?_; intro q' c' w' S' hsz; have S2 := Lib.hid S'; clear S'))
            go_roundw
            case rel => exact ⟨k + 1, q', c', by omega, by go_num, rfl, by rw [HT.out]; exact S2.out⟩
            case measure => simp [intOf]; omega
        · obtain rfl : k = P.length := by omega
          rw [List.take_length] at S
          have SH := Lib.hid S; clear S
          go_wp2
          go_ret2
          exact ⟨q2, c2, by rw [List.length_map]; rfl, by rw [List.length_map]; exact SH.out.pick [0] (by decide) rfl⟩
end Go.Proofs.YtgnjffnkmdodeaaGreat
/- The reference's Levels: levels are lowered edge by edge. -/
namespace Go.Proofs.YtgnjffnkmdodeaaGreat
open Go Go.RowKit
set_option maxRecDepth 100000 in
set_option maxHeartbeats 8000000 in
theorem Levels07_yes (po : Option Addr) (no co : Nat) (O : List Int) (pt : Option Addr) (nt ct : Nat) (T : List Int) (pr : Option Addr) (nr cr : Nat) (R : List Int) (pv : Option Addr) (nv cv : Nat) (V : List Int) (w : World) (n s : Nat) (back : Bool) (hO : Rd w 1 po no (encI O)) (hT : Rd w 1 pt nt (encI T)) (hR : Rd w 1 pr nr (encI R)) (hV : Rd w 1 pv nv (encI V)) (hct : nt ≤ ct) (hcv : nv ≤ cv) (hck : checkR O T R V = true) (hno : O.length = n + 1) (hs : s < n) :
    Calls Tryz.prog 26 #[.agg #[.slice po no co, .slice pt nt ct, .slice pr nr cr, .slice pv nv cv], .int .i64 s, .bool back] w fun e w' => ∃ q c, e = .returned (.tuple #[.slice q n c, .int .i64 0]) ∧ Sep w w' [.own 3 1 q n c (encI ((List.range n).map fun v => lev (nxR back O T R V) n s v))] := by
  obtain ⟨i0, hi0, hz0, hz1, hz2⟩ := info_parts infI
  have S0 := Lib.hid ((Sep.start w).al #[.slice po no co, .slice pt nt ct, .slice pr nr cr, .slice pv nv cv] 24 w.heap.size rfl)
  have HE := Lib.hid (fun W1 (h : Ext w W1) => edges07 po no co O pt nt ct T pr nr cr R pv nv cv V W1 back (hO.ext h) (hT.ext h) (hR.ext h) (hV.ext h) hct hcv)
  rw [hck] at HE
  have HE2 : Hid (∀ W1, Ext w W1 → Calls Tryz.prog 56 #[.agg #[.slice po no co, .slice pt nt ct, .slice pr nr cr, .slice pv nv cv], .bool back] W1 fun e w' => ∃ q c, e = .returned (.tuple #[.slice q (edgD back O T).length c, .int .i64 0]) ∧ Sep W1 w' [.own 53 2 q (edgD back O T).length c (encE (edgD back O T))]) := HE.out
  have h1 := (checkR_half hck).2.2.1
  have r := offB_parts (halfB_off h1)
  have hn : n ≤ 200 := by omega
  have l1 := hO.nI
  obtain rfl : no = n + 1 := by omega
  have hbd := edgD_bd h1 back
  have hmem := edgD_mem hck back
  have hml := edgD_len h1 back
  rw [hno, Nat.add_sub_cancel] at hbd hmem
  have HFIN : Hid (bfN (edgD back O T) (bf0 n s) n = (List.range n).map fun v => lev (nxR back O T R V) n s v) := bfN_lev hs hbd hmem (bf0_low hs) (by rw [bf0_nth hs s hs, if_pos rfl])
  have HBD := Lib.hid hbd
  generalize edgD back O T = l at *
  clear hO hT hR hV hck hno h1 r l1 hbd hmem HE
  have d1 : decide ((s:Int) < 0) = false := by simp
  have d2 : decide ((n:Int) ≤ s) = false := by simp; omega
  have d3 : decide (n ≤ s) = false := by simp; omega
  go_enter Tryz.func26, Tryz.ntmps26
  go_wp2_with (first
    | (at_make; go_must (refine wpList_make_sep rfl _ _ _ rfl 3 i0 _ 1 Tryz.underlying22 hi0 hz0 hz1 (n:Int) n rfl rfl rfl (by rw [hz2]; omega) (by unfold maxLen; omega) S1.out ?_; intro w2 S'; rw [made_encI] at S'; have S2 := Lib.hid S'; clear S'))
    | (go_at_call 56; go_must (refine (HE2.out _ S0.out.ext).mono ?_; rintro e w1 ⟨q1, c1, rfl, Z⟩; have S1 := Lib.hid (S0.out.comp Z); have az := (S1.out.blk 1 rfl).lt; have a0 := (S1.out.blk 1 rfl).cell 0; have a1 := (S1.out.blk 1 rfl).cell 1; have a2 := (S1.out.blk 1 rfl).cell 2; have a3 := (S1.out.blk 1 rfl).cell 3; clear Z)))
  generalize hql : (some ⟨w1.heap.size, 0, none⟩ : Option Addr) = qo at *
  clear hql S1 S0 a0 a1 a2 a3 az
  go_loopw [12] (fun v wr => ∃ k : Nat, k ≤ n ∧ v = .int .i64 k ∧ Sep w wr [.own 3 1 qo n n (encI (List.replicate k (-1) ++ List.replicate (n - k) 0)), .own 53 2 q1 l.length c1 (encE l), .blk w.heap.size 24 #[.slice po (n + 1) co, .slice pt nt ct, .slice pr nr cr, .slice pv nv cv]]) (fun v _ => n - (intOf v).toNat)
  case atStart => exact ⟨0, Nat.zero_le _, rfl, S2.out⟩
  case round =>
    clear S2
    obtain ⟨k, hk, rfl, S⟩ := hrel
    have pz := (S.rd 0 rfl (by omega)).ptr
    have fz := own_frozen (S.own 0 rfl) (by omega) k
    by_cases hlt : k < n
    · have HS := Lib.hid (rep_set hlt)
      have c1 := own_cell (S.own 0 rfl) (k := k) (by omega)
      have d1 : (0:Int) ≤ k := by omega
      have d2 : (k:Int) < n := by omega
      have SH := Lib.hid S; clear S
      go_wp2
      go_roundw
      case rel => exact ⟨k + 1, by omega, by go_num, by rw [← HS.out, ← encI_set]; exact SH.out.setRow 0 rfl k (by omega) (.int .i64 (-1))⟩
      case measure => simp [intOf]; omega
    · obtain rfl : n = k := by omega
      rw [Nat.sub_self, List.replicate_zero, List.append_nil] at S
      have fz2 := own_frozen (S.own 0 rfl) (by omega) s
      have c2 := own_cell (S.own 0 rfl) (k := s) (by omega)
      have d4 : (0:Int) ≤ s := by omega
      have d5 : (s:Int) < n := by omega
      have SH := Lib.hid S; clear S
      clear fz
      go_wp2
      go_loopw [13, 14, 15, 16] (fun v _ _ _ wr => ∃ t : Nat, t ≤ n ∧ v = .int .i64 t ∧ Sep w wr [.own 3 1 qo n n (encI (bfN l (bf0 n s) t)), .own 53 2 q1 l.length c1 (encE l), .blk w.heap.size 24 #[.slice po (n + 1) co, .slice pt nt ct, .slice pr nr cr, .slice pv nv cv]]) (fun v _ _ _ _ => n - (intOf v).toNat)
      case atStart => exact ⟨0, Nat.zero_le _, rfl, by show Sep _ _ (.own _ _ _ _ _ (encI (bf0 n s)) :: _); unfold bf0; rw [← encI_set]; exact SH.out.setRow 0 rfl s (by omega) (.int .i64 0)⟩
      case round =>
        clear SH fz2 c2 hlt
        obtain ⟨t, ht, rfl, S⟩ := hrel
        by_cases hlt : t < n
        · have d6 : (0:Int) ≤ t := by omega
          have d7 : (t:Int) < n := by omega
          have SH := Lib.hid S; clear S
          go_wp2
          go_loopw [14, 15, 16] (fun i _ _ wr => ∃ j : Nat, j ≤ l.length ∧ i = .int .i64 j ∧ Sep w wr [.own 3 1 qo n n (encI (bfR (l.take j) (bfN l (bf0 n s) t))), .own 53 2 q1 l.length c1 (encE l), .blk w.heap.size 24 #[.slice po (n + 1) co, .slice pt nt ct, .slice pr nr cr, .slice pv nv cv]]) (fun i _ _ _ => l.length - (intOf i).toNat)
          case atStart => exact ⟨0, Nat.zero_le _, rfl, SH.out⟩
          case round =>
            clear SH
            obtain ⟨j, hj, rfl, S⟩ := hrel
            have pz := (S.rd 0 rfl (by omega)).ptr
            have pe := (S.rd 1 rfl (by omega)).ptr
            by_cases hlj : j < l.length
            · have hs1 := Lib.hid (bfR_take (X := bfN l (bf0 n s) t) hlj)
              have hb : ∀ v, -1 ≤ nth (bfR (l.take j) (bfN l (bf0 n s) t)) v ∧ nth (bfR (l.take j) (bfN l (bf0 n s) t)) v ≤ 1000000 := fun v => by
                have g1 := bfR_bd (l := l) j (bfN l (bf0 n s) t) (Int.natCast_nonneg (t * l.length)) (bfN_bd t) v
                have g2 : t * l.length ≤ 200 * 2000 := Nat.mul_le_mul (by omega) (by omega)
                omega
              generalize bfR (l.take j) (bfN l (bf0 n s) t) = X at *
              have e1 := (S.rd 1 rfl (by omega)).cE hlj
              have e2 := (S.rd 1 rfl (by omega)).cE2 hlj
              obtain ⟨b1, b2, b3, b4⟩ := HBD.out _ (nth_mem hlj)
              obtain ⟨a, ha⟩ : ∃ a : Nat, (nth l j).1 = (a : Int) := ⟨(nth l j).1.toNat, by omega⟩
              obtain ⟨b, hb'⟩ : ∃ b : Nat, (nth l j).2 = (b : Int) := ⟨(nth l j).2.toNat, by omega⟩
              rw [ha] at b1 b2 e1
              rw [hb'] at b3 b4 e2
              have hs2 : Hid (bfR (l.take (j + 1)) (bfN l (bf0 n s) t) = if 0 ≤ nth X a ∧ (nth X b < 0 ∨ nth X a + 1 < nth X b) then X.set b (nth X a + 1) else X) := by
                unfold Hid; rw [hs1.out]; unfold bf1; rw [ha, hb', Int.toNat_natCast, Int.toNat_natCast]
              clear ha hb' hs1
              have fa := own_frozen (S.own 0 rfl) (by omega) b
              have ca := (S.rd 0 rfl (by omega)).cI (k := a) (by omega)
              have cb := (S.rd 0 rfl (by omega)).cI (k := b) (by omega)
              have ba := hb a
              have bb := hb b
              clear hb
              have d8 : (0:Int) ≤ j := by omega
              have d9 : (j:Int) < l.length := by omega
              have dA : (a:Int) < n := b2
              have dB : (b:Int) < n := b4
              generalize nth X a = x at *
              generalize nth X b = y at *
              by_cases k1 : 0 ≤ x
              · have f1 : decide (0 ≤ x) = true := by simpa using k1
                by_cases k2 : y < 0
                · have f2 : decide (y < 0) = true := by simpa using k2
                  rw [if_pos ⟨k1, .inl k2⟩] at hs2
                  have SH := Lib.hid S; clear S
                  go_wp2
                  go_roundw
                  case rel => exact ⟨j + 1, by omega, by go_num, by rw [hs2.out, ← encI_set]; exact SH.out.setRow 0 rfl b (by omega) (.int .i64 (x + 1))⟩
                  case measure => simp [intOf]; omega
                · have f2 : decide (y < 0) = false := by simpa using k2
                  by_cases k3 : x + 1 < y
                  · have f3 : decide (x + 1 < y) = true := by simpa using k3
                    rw [if_pos ⟨k1, .inr k3⟩] at hs2
                    have SH := Lib.hid S; clear S
                    go_wp2
                    go_roundw
                    case rel => exact ⟨j + 1, by omega, by go_num, by rw [hs2.out, ← encI_set]; exact SH.out.setRow 0 rfl b (by omega) (.int .i64 (x + 1))⟩
                    case measure => simp [intOf]; omega
                  · have f3 : decide (x + 1 < y) = false := by simpa using k3
                    rw [if_neg (by omega)] at hs2
                    have SH := Lib.hid S; clear S
                    go_wp2
                    go_roundw
                    case rel => exact ⟨j + 1, by omega, by go_num, by rw [hs2.out]; exact SH.out⟩
                    case measure => simp [intOf]; omega
              · have f1 : decide (0 ≤ x) = false := by simpa using k1
                rw [if_neg (by omega)] at hs2
                have SH := Lib.hid S; clear S
                go_wp2
                go_roundw
                case rel => exact ⟨j + 1, by omega, by go_num, by rw [hs2.out]; exact SH.out⟩
                case measure => simp [intOf]; omega
            · obtain rfl : j = l.length := by omega
              rw [List.take_length] at S
              have SH := Lib.hid S; clear S
              go_wp2
              go_roundw
              case rel => exact ⟨t + 1, by omega, by go_num, SH.out⟩
              case measure => simp [intOf]; omega
        · obtain rfl : n = t := by omega
          rw [HFIN.out] at S
          have SH := Lib.hid S; clear S
          go_wp2
          go_ret2
          exact ⟨qo, _, rfl, SH.out.pick [0] (by decide) rfl⟩
end Go.Proofs.YtgnjffnkmdodeaaGreat
/- The reference's Levels, whatever is asked. -/
namespace Go.Proofs.YtgnjffnkmdodeaaGreat
open Go Go.RowKit
set_option maxRecDepth 100000 in
set_option maxHeartbeats 4000000 in
theorem Levels07_no (po : Option Addr) (no co : Nat) (O : List Int) (pt : Option Addr) (nt ct : Nat) (T : List Int) (pr : Option Addr) (nr cr : Nat) (R : List Int) (pv : Option Addr) (nv cv : Nat) (V : List Int) (w : World) (s : Int) (back : Bool) (hO : Rd w 1 po no (encI O)) (hT : Rd w 1 pt nt (encI T)) (hR : Rd w 1 pr nr (encI R)) (hV : Rd w 1 pv nv (encI V)) (hct : nt ≤ ct) (hcv : nv ≤ cv) (hc : levC (checkR O T R V) O s ≠ 0) :
    Calls Tryz.prog 26 #[.agg #[.slice po no co, .slice pt nt ct, .slice pr nr cr, .slice pv nv cv], .int .i64 s, .bool back] w fun e w' => e = .returned (.tuple #[.slice none 0 0, .int .i64 (levC (checkR O T R V) O s)]) ∧ Ext w w' := by
  have S0 := Lib.hid ((Sep.start w).al #[.slice po no co, .slice pt nt ct, .slice pr nr cr, .slice pv nv cv] 24 w.heap.size rfl)
  have HE := Lib.hid (fun W1 (h : Ext w W1) => edges07 po no co O pt nt ct T pr nr cr R pv nv cv V W1 back (hO.ext h) (hT.ext h) (hR.ext h) (hV.ext h) hct hcv)
  have l1 := hO.nI
  have n1 := hO.small
  clear hO hT hR hV
  unfold levC at *
  cases hck : checkR O T R V with
  | false =>
    rw [hck] at HE
    rw [if_neg (by simp)]
    have HE2 : Hid (∀ W1, Ext w W1 → Calls Tryz.prog 56 #[.agg #[.slice po no co, .slice pt nt ct, .slice pr nr cr, .slice pv nv cv], .bool back] W1 fun e w' => ∃ q c, e = .returned (.tuple #[.slice q 0 c, .int .i64 40]) ∧ Sep W1 w' [.own 53 2 q 0 c []]) := HE.out
    clear HE hck hc l1
    have HE := HE2
    clear HE2
    go_enter Tryz.func26, Tryz.ntmps26
    go_wp2_with (go_at_call 56; go_must (refine (HE.out _ S0.out.ext).mono ?_; rintro e w1 ⟨q1, c1, rfl, Z⟩; have S1 := Lib.hid (S0.out.comp Z); have az := (S1.out.blk 1 rfl).lt; have a0 := (S1.out.blk 1 rfl).cell 0; have a1 := (S1.out.blk 1 rfl).cell 1; have a2 := (S1.out.blk 1 rfl).cell 2; have a3 := (S1.out.blk 1 rfl).cell 3; clear Z))
    go_ret2
    exact ⟨rfl, S1.out.ext⟩
  | true =>
    rw [hck, if_pos rfl] at hc
    rw [hck] at HE
    rw [if_pos rfl]
    have hno : ¬ (0 ≤ s ∧ s < (O.length : Int) - 1) := fun h => by rw [if_pos h] at hc; exact hc rfl
    rw [if_neg hno]
    have HE2 : Hid (∀ W1, Ext w W1 → Calls Tryz.prog 56 #[.agg #[.slice po no co, .slice pt nt ct, .slice pr nr cr, .slice pv nv cv], .bool back] W1 fun e w' => ∃ q c, e = .returned (.tuple #[.slice q (edgD back O T).length c, .int .i64 0]) ∧ Sep W1 w' [.own 53 2 q (edgD back O T).length c (encE (edgD back O T))]) := HE.out
    clear HE hck hc
    have HE := HE2
    clear HE2
    generalize edgD back O T = l at *
    by_cases h1 : s < 0
    · have d1 : decide (s < 0) = true := by simpa using h1
      clear hno l1
      go_enter Tryz.func26, Tryz.ntmps26
      go_wp2_with (go_at_call 56; go_must (refine (HE.out _ S0.out.ext).mono ?_; rintro e w1 ⟨q1, c1, rfl, Z⟩; have S1 := Lib.hid (S0.out.comp Z); have az := (S1.out.blk 1 rfl).lt; have a0 := (S1.out.blk 1 rfl).cell 0; have a1 := (S1.out.blk 1 rfl).cell 1; have a2 := (S1.out.blk 1 rfl).cell 2; have a3 := (S1.out.blk 1 rfl).cell 3; clear Z))
      go_ret2
      exact ⟨rfl, S1.out.ext⟩
    · have d1 : decide (s < 0) = false := by simpa using h1
      have d2 : decide ((no:Int) - 1 ≤ s) = true := by simp; omega
      clear hno l1
      go_enter Tryz.func26, Tryz.ntmps26
      go_wp2_with (go_at_call 56; go_must (refine (HE.out _ S0.out.ext).mono ?_; rintro e w1 ⟨q1, c1, rfl, Z⟩; have S1 := Lib.hid (S0.out.comp Z); have az := (S1.out.blk 1 rfl).lt; have a0 := (S1.out.blk 1 rfl).cell 0; have a1 := (S1.out.blk 1 rfl).cell 1; have a2 := (S1.out.blk 1 rfl).cell 2; have a3 := (S1.out.blk 1 rfl).cell 3; clear Z))
      go_ret2
      exact ⟨rfl, S1.out.ext⟩
/-- whatever is asked -/
theorem Levels07 (po : Option Addr) (no co : Nat) (O : List Int) (pt : Option Addr) (nt ct : Nat) (T : List Int) (pr : Option Addr) (nr cr : Nat) (R : List Int) (pv : Option Addr) (nv cv : Nat) (V : List Int) (w : World) (s : Int) (back : Bool) (hO : Rd w 1 po no (encI O)) (hT : Rd w 1 pt nt (encI T)) (hR : Rd w 1 pr nr (encI R)) (hV : Rd w 1 pv nv (encI V)) (hct : nt ≤ ct) (hcv : nv ≤ cv) :
    Calls Tryz.prog 26 #[.agg #[.slice po no co, .slice pt nt ct, .slice pr nr cr, .slice pv nv cv], .int .i64 s, .bool back] w fun e w' => ∃ q c, e = .returned (.tuple #[.slice q (levR (checkR O T R V) back O T R V s).length c, .int .i64 (levC (checkR O T R V) O s)]) ∧ Sep w w' [.own 3 1 q (levR (checkR O T R V) back O T R V s).length c (encI (levR (checkR O T R V) back O T R V s))] := by
  by_cases hc : levC (checkR O T R V) O s = 0
  · have hck : checkR O T R V = true := by
      apply Classical.byContradiction; intro h
      unfold levC at hc; rw [if_neg h] at hc; omega
    have hs : 0 ≤ s ∧ s < (O.length : Int) - 1 := by
      apply Classical.byContradiction; intro h
      unfold levC at hc; rw [if_pos hck, if_neg h] at hc; omega
    obtain ⟨n, hn⟩ : ∃ n, O.length = n + 1 := ⟨O.length - 1, by omega⟩
    obtain ⟨a, rfl⟩ : ∃ a : Nat, s = (a : Int) := ⟨s.toNat, by omega⟩
    have e : levR (checkR O T R V) back O T R V a = (List.range n).map fun v => lev (nxR back O T R V) n a v := by
      unfold levR; rw [if_pos hc, hn]; rfl
    rw [hc, e]
    refine (Levels07_yes po no co O pt nt ct T pr nr cr R pv nv cv V w n a back hO hT hR hV hct hcv hck hn (by omega)).mono ?_
    rintro e w' ⟨q, c, rfl, S⟩
    have hl : ((List.range n).map fun v => lev (nxR back O T R V) n a v).length = n := by simp
    refine ⟨q, c, by rw [hl], by rw [hl]; exact S⟩
  · have e : levR (checkR O T R V) back O T R V s = [] := by unfold levR; rw [if_neg hc]
    rw [e]
    refine (Levels07_no po no co O pt nt ct T pr nr cr R pv nv cv V w s back hO hT hR hV hct hcv hc).mono ?_
    rintro e w' ⟨rfl, h⟩
    exact ⟨none, 0, rfl, ((Sep.start w).call h).nilrow _ _⟩
end Go.Proofs.YtgnjffnkmdodeaaGreat
/- What the reference's searches come to, in plain words. -/
namespace Go.Proofs.YtgnjffnkmdodeaaGreat
open Go Go.RowKit
section
variable {nx nb : Nat → List Int} {n s t : Nat} (h : Rev nx nb n) (hs : s < n) (ht : t < n)
include h hs ht
theorem first_meet {k : Nat} (h1 : ∀ j : Nat, j < k → meetB n (lev nx n s) (lev nb n t) j = false) (h2 : meetB n (lev nx n s) (lev nb n t) k = true) : stepsN n (lev nx n s) (lev nb n t) = k := by
  obtain ⟨g1, g2⟩ := (meet_lev h hs ht).1 h2
  have h3 := steps_yes h hs ht g1 (n + 1) 0 (by omega) (by omega)
  unfold stepsN
  rw [h3]
  by_cases hk : k = 0
  · subst hk; omega
  · have h4 := h1 (k - 1) (by omega)
    have h5 : ¬ (lev nx n s t ≤ 2 * ((k - 1 : Nat) : Int)) := fun e => by
      rw [(meet_lev h hs ht).2 ⟨g1, e⟩] at h4; cases h4
    omega
theorem no_meet (h1 : ∀ j : Nat, j < n + 1 → meetB n (lev nx n s) (lev nb n t) j = false) : ∀ k : Nat, meetB n (lev nx n s) (lev nb n t) k = false := by
  intro k
  cases e : meetB n (lev nx n s) (lev nb n t) k with
  | false => rfl
  | true =>
    obtain ⟨g1, g2⟩ := (meet_lev h hs ht).1 e
    have g3 := lev_lt (nx := nx) hs ht
    have := h1 n (by omega)
    rw [(meet_lev h hs ht).2 ⟨g1, by omega⟩] at this
    cases this
end
/-- meet, of rows -/
def meetR (A B : List Int) (k : Int) (m : Nat) : Bool := (List.range m).any fun v => decide (0 ≤ nth A v) && decide (nth A v ≤ k) && decide (0 ≤ nth B v) && decide (nth B v ≤ k)
theorem meetR_is (f g : Nat → Int) (n : Nat) (k : Int) : meetR ((List.range n).map fun v => f v) ((List.range n).map fun v => g v) k n = meetB n f g k := by
  unfold meetR meetB
  rw [Bool.eq_iff_iff, List.any_eq_true, List.any_eq_true]
  constructor
  · rintro ⟨v, hv, h⟩
    have hv' := List.mem_range.1 hv
    rw [levL_nth hv', levL_nth hv'] at h
    exact ⟨v, hv, h⟩
  · rintro ⟨v, hv, h⟩
    have hv' := List.mem_range.1 hv
    refine ⟨v, hv, ?_⟩
    rw [levL_nth hv', levL_nth hv']
    exact h
theorem hasL_is (f : Nat → Int) (n : Nat) (k : Int) : inB ((List.range n).map fun v => f v) k = hasL n f k := by
  unfold inB hasL; rw [List.any_map]; rfl
/-- the least one that is found is what a scan from the end keeps last -/
theorem scan_step {p : Int → Bool} {l : List Int} {j : Nat} (hj : j < l.length) : ((l.drop j).find? p).getD 0 = cond (p (nth l j)) (nth l j) (((l.drop (j + 1)).find? p).getD 0) := by
  have e : l.drop j = nth l j :: l.drop (j + 1) := by rw [nth_eq hj, ← List.drop_eq_getElem_cons hj]
  rw [e]
  cases hp : p (nth l j) with
  | true => rw [List.find?_cons_of_pos hp]; rfl
  | false => rw [List.find?_cons_of_neg (by simp [hp])]; rfl
/-- one of both is wrong -/
theorem pairC_lev {ck : Bool} {O : List Int} {s t : Int} : pairC ck O s t = if levC ck O s = 0 then levC ck O t else levC ck O s := by
  unfold pairC levC
  cases ck with
  | false => simp
  | true =>
    rw [if_pos rfl, if_pos rfl, if_pos rfl]
    by_cases h1 : 0 ≤ s ∧ s < (O.length : Int) - 1
    · rw [if_pos h1, if_pos rfl]
      by_cases h2 : 0 ≤ t ∧ t < (O.length : Int) - 1
      · rw [if_pos ⟨h1, h2⟩, if_pos h2]
      · rw [if_neg (fun h => h2 h.2), if_neg h2]
    · rw [if_neg (fun h => h1 h.1), if_neg h1, if_neg (by omega)]
section
variable {nx nb : Nat → List Int} {n s t : Nat} (h : Rev nx nb n) (hin : InN nx n) (hs : s < n) (ht : t < n)
include h hin hs ht
/-- the path comes to its end only at its end -/
theorem path_end {k : Nat} (hk : lev nb n t s = k) {i : Nat} (hi : i ≤ k) : (nth (pathI nx (lev nb n t) k s) i = t ↔ i = k) := by
  rw [pathI_nth _ _ _ _ hi]
  obtain ⟨g1, g2, _⟩ := pathL_at h ht hin k s hs hk i hi
  constructor
  · intro e
    have e2 : nth (pathL nx (lev nb n t) k s) i = t := by omega
    rw [e2, ((lev_ok nb n t ht).zero t ht).2 rfl] at g2
    omega
  · rintro rfl
    rw [pathL_last h ht hin hs hk]
end
end Go.Proofs.YtgnjffnkmdodeaaGreat
/- The reference's searches (chapter 8): both, Dist, meet, has. -/
namespace Go.Proofs.YtgnjffnkmdodeaaGreat
open Go Go.RowKit
set_option maxRecDepth 100000 in
set_option maxHeartbeats 4000000 in
theorem both08_no (po : Option Addr) (no co : Nat) (O : List Int) (pt : Option Addr) (nt ct : Nat) (T : List Int) (pr : Option Addr) (nr cr : Nat) (R : List Int) (pv : Option Addr) (nv cv : Nat) (V : List Int) (s t : Int) (w : World) (hO : Rd w 1 po no (encI O)) (hT : Rd w 1 pt nt (encI T)) (hR : Rd w 1 pr nr (encI R)) (hV : Rd w 1 pv nv (encI V)) (hct : nt ≤ ct) (hcv : nv ≤ cv) (hc : pairC (checkR O T R V) O s t ≠ 0) :
    Calls Tryz.prog 38 #[.agg #[.slice po no co, .slice pt nt ct, .slice pr nr cr, .slice pv nv cv], .int .i64 s, .int .i64 t] w fun e w' => ∃ q1 m1 c1 q2 m2 c2, e = .returned (.tuple #[.slice q1 m1 c1, .slice q2 m2 c2, .int .i64 (pairC (checkR O T R V) O s t)]) ∧ Ext w w' := by
  have S0 := Lib.hid ((Sep.start w).al #[.slice po no co, .slice pt nt ct, .slice pr nr cr, .slice pv nv cv] 24 w.heap.size rfl)
  rw [pairC_lev] at hc ⊢
  by_cases h0 : levC (checkR O T R V) O s = 0
  · rw [if_pos h0] at hc ⊢
    have HA := Lib.hid (fun W1 (h : Ext w W1) => Levels07 po no co O pt nt ct T pr nr cr R pv nv cv V W1 s false (hO.ext h) (hT.ext h) (hR.ext h) (hV.ext h) hct hcv)
    have HB := Lib.hid (fun W1 (h : Ext w W1) => Levels07_no po no co O pt nt ct T pr nr cr R pv nv cv V W1 t true (hO.ext h) (hT.ext h) (hR.ext h) (hV.ext h) hct hcv hc)
    rw [h0] at HA
    generalize levC (checkR O T R V) O t = c at *
    generalize levR (checkR O T R V) false O T R V s = A at *
    have hc0 : (c != 0) = true := by simpa using hc
    clear hO hT hR hV hct hcv hc h0
    go_enter Tryz.func38, Tryz.ntmps38
    go_wp2_with (first
      | (go_at_call 26; have _t := S1; go_must (refine (HB.out _ S1.out.ext).mono ?_; rintro e w2 ⟨rfl, hb⟩; have S2 := Lib.hid (S1.out.call hb); clear hb))
      | (go_at_call 26; go_must (refine (HA.out _ S0.out.ext).mono ?_; rintro e w1 ⟨q, c1, rfl, Z⟩; have S1 := Lib.hid (S0.out.comp Z); have az := (S1.out.blk 1 rfl).lt; have a0 := (S1.out.blk 1 rfl).cell 0; have a1 := (S1.out.blk 1 rfl).cell 1; have a2 := (S1.out.blk 1 rfl).cell 2; have a3 := (S1.out.blk 1 rfl).cell 3; clear Z)))
    go_ret3
    exact ⟨_, _, _, _, _, _, rfl, S2.out.ext⟩
  · rw [if_neg h0] at hc ⊢
    have HA := Lib.hid (fun W1 (h : Ext w W1) => Levels07_no po no co O pt nt ct T pr nr cr R pv nv cv V W1 s false (hO.ext h) (hT.ext h) (hR.ext h) (hV.ext h) hct hcv hc)
    generalize levC (checkR O T R V) O s = c at *
    have hc0 : (c != 0) = true := by simpa using hc
    clear hO hT hR hV hct hcv hc h0
    go_enter Tryz.func38, Tryz.ntmps38
    go_wp2_with (go_at_call 26; go_must (refine (HA.out _ S0.out.ext).mono ?_; rintro e w1 ⟨rfl, hb⟩; have S1 := Lib.hid (S0.out.call hb); clear hb))
    go_ret3
    exact ⟨_, _, _, _, _, _, rfl, S1.out.ext⟩
set_option maxRecDepth 100000 in
set_option maxHeartbeats 4000000 in
theorem both08_yes (po : Option Addr) (no co : Nat) (O : List Int) (pt : Option Addr) (nt ct : Nat) (T : List Int) (pr : Option Addr) (nr cr : Nat) (R : List Int) (pv : Option Addr) (nv cv : Nat) (V : List Int) (n s t : Nat) (w : World) (hO : Rd w 1 po no (encI O)) (hT : Rd w 1 pt nt (encI T)) (hR : Rd w 1 pr nr (encI R)) (hV : Rd w 1 pv nv (encI V)) (hct : nt ≤ ct) (hcv : nv ≤ cv) (hck : checkR O T R V = true) (hno : O.length = n + 1) (hs : s < n) (ht : t < n) :
    Calls Tryz.prog 38 #[.agg #[.slice po no co, .slice pt nt ct, .slice pr nr cr, .slice pv nv cv], .int .i64 s, .int .i64 t] w fun e w' => ∃ q1 c1 q2 c2, e = .returned (.tuple #[.slice q1 n c1, .slice q2 n c2, .int .i64 0]) ∧ Sep w w' [.own 3 1 q2 n c2 (encI ((List.range n).map fun v => lev (rowL R V) n t v)), .own 3 1 q1 n c1 (encI ((List.range n).map fun v => lev (rowL O T) n s v))] := by
  have S0 := Lib.hid ((Sep.start w).al #[.slice po no co, .slice pt nt ct, .slice pr nr cr, .slice pv nv cv] 24 w.heap.size rfl)
  have HA : Hid (∀ W1, Ext w W1 → Calls Tryz.prog 26 #[.agg #[.slice po no co, .slice pt nt ct, .slice pr nr cr, .slice pv nv cv], .int .i64 s, .bool false] W1 fun e w' => ∃ q c, e = .returned (.tuple #[.slice q n c, .int .i64 0]) ∧ Sep W1 w' [.own 3 1 q n c (encI ((List.range n).map fun v => lev (rowL O T) n s v))]) :=
    fun W1 h => Levels07_yes po no co O pt nt ct T pr nr cr R pv nv cv V W1 n s false (hO.ext h) (hT.ext h) (hR.ext h) (hV.ext h) hct hcv hck hno hs
  have HB : Hid (∀ W1, Ext w W1 → Calls Tryz.prog 26 #[.agg #[.slice po no co, .slice pt nt ct, .slice pr nr cr, .slice pv nv cv], .int .i64 t, .bool true] W1 fun e w' => ∃ q c, e = .returned (.tuple #[.slice q n c, .int .i64 0]) ∧ Sep W1 w' [.own 3 1 q n c (encI ((List.range n).map fun v => lev (rowL R V) n t v))]) :=
    fun W1 h => Levels07_yes po no co O pt nt ct T pr nr cr R pv nv cv V W1 n t true (hO.ext h) (hT.ext h) (hR.ext h) (hV.ext h) hct hcv hck hno ht
  generalize ((List.range n).map fun v => lev (rowL O T) n s v) = A at *
  generalize ((List.range n).map fun v => lev (rowL R V) n t v) = B at *
  clear hO hT hR hV hct hcv hck hno
  go_enter Tryz.func38, Tryz.ntmps38
  go_wp2_with (first
    | (go_at_call 26; have _t := S1; go_must (refine (HB.out _ S1.out.ext).mono ?_; rintro e w2 ⟨q2, c2, rfl, Z⟩; have S2 := Lib.hid (S1.out.comp Z); clear Z))
    | (go_at_call 26; go_must (refine (HA.out _ S0.out.ext).mono ?_; rintro e w1 ⟨q1, c1, rfl, Z⟩; have S1 := Lib.hid (S0.out.comp Z); have az := (S1.out.blk 1 rfl).lt; have a0 := (S1.out.blk 1 rfl).cell 0; have a1 := (S1.out.blk 1 rfl).cell 1; have a2 := (S1.out.blk 1 rfl).cell 2; have a3 := (S1.out.blk 1 rfl).cell 3; clear Z)))
  go_ret3
  exact ⟨q1, c1, q2, c2, rfl, S2.out.pick [0, 1] (by decide) rfl⟩
set_option maxRecDepth 100000 in
set_option maxHeartbeats 4000000 in
theorem Dist08_no (po : Option Addr) (no co : Nat) (O : List Int) (pt : Option Addr) (nt ct : Nat) (T : List Int) (pr : Option Addr) (nr cr : Nat) (R : List Int) (pv : Option Addr) (nv cv : Nat) (V : List Int) (s t : Int) (w : World) (hO : Rd w 1 po no (encI O)) (hT : Rd w 1 pt nt (encI T)) (hR : Rd w 1 pr nr (encI R)) (hV : Rd w 1 pv nv (encI V)) (hct : nt ≤ ct) (hcv : nv ≤ cv) (hc : pairC (checkR O T R V) O s t ≠ 0) :
    Calls Tryz.prog 13 #[.agg #[.slice po no co, .slice pt nt ct, .slice pr nr cr, .slice pv nv cv], .int .i64 s, .int .i64 t] w fun e w' => e = .returned (.tuple #[.int .i64 0, .bool false, .int .i64 (pairC (checkR O T R V) O s t)]) ∧ Ext w w' := by
  have HO := Lib.hid (fun W1 (h : Ext w W1) => both08_no po no co O pt nt ct T pr nr cr R pv nv cv V s t W1 (hO.ext h) (hT.ext h) (hR.ext h) (hV.ext h) hct hcv hc)
  have S0 := Lib.hid ((Sep.start w).al #[.slice po no co, .slice pt nt ct, .slice pr nr cr, .slice pv nv cv] 24 w.heap.size rfl)
  generalize pairC (checkR O T R V) O s t = c at *
  have hc0 : (c != 0) = true := by simpa using hc
  clear hO hT hR hV hct hcv hc
  go_enter Tryz.func13, Tryz.ntmps13
  go_wp2_with (go_at_call 38; go_must (refine (HO.out _ S0.out.ext).mono ?_; rintro e w1 ⟨q1, m1, c1, q2, m2, c2, rfl, hb⟩; have S1 := Lib.hid (S0.out.call hb); clear hb))
  go_ret3
  exact ⟨rfl, S1.out.ext⟩
set_option maxRecDepth 100000 in
set_option maxHeartbeats 4000000 in
theorem Dist08_yes (po : Option Addr) (no co : Nat) (O : List Int) (pt : Option Addr) (nt ct : Nat) (T : List Int) (pr : Option Addr) (nr cr : Nat) (R : List Int) (pv : Option Addr) (nv cv : Nat) (V : List Int) (n s t : Nat) (w : World) (hO : Rd w 1 po no (encI O)) (hT : Rd w 1 pt nt (encI T)) (hR : Rd w 1 pr nr (encI R)) (hV : Rd w 1 pv nv (encI V)) (hct : nt ≤ ct) (hcv : nv ≤ cv) (hck : checkR O T R V = true) (hno : O.length = n + 1) (hs : s < n) (ht : t < n) :
    Calls Tryz.prog 13 #[.agg #[.slice po no co, .slice pt nt ct, .slice pr nr cr, .slice pv nv cv], .int .i64 s, .int .i64 t] w fun e w' => e = .returned (.tuple #[.int .i64 (distN (lev (rowL O T) n s t)), .bool (distB (lev (rowL O T) n s t)), .int .i64 0]) ∧ Ext w w' := by
  have HO := Lib.hid (fun W1 (h : Ext w W1) => both08_yes po no co O pt nt ct T pr nr cr R pv nv cv V n s t W1 (hO.ext h) (hT.ext h) (hR.ext h) (hV.ext h) hct hcv hck hno hs ht)
  have S0 := Lib.hid ((Sep.start w).al #[.slice po no co, .slice pt nt ct, .slice pr nr cr, .slice pv nv cv] 24 w.heap.size rfl)
  have r := offB_parts (halfB_off (checkR_half hck).2.2.1)
  have hn : n ≤ 200 := by omega
  have hA : nth ((List.range n).map fun v => lev (rowL O T) n s v) t = lev (rowL O T) n s t := levL_nth ht
  generalize ((List.range n).map fun v => lev (rowL O T) n s v) = A at *
  generalize ((List.range n).map fun v => lev (rowL R V) n t v) = B at *
  generalize lev (rowL O T) n s t = D at *
  have HA := Lib.hid hA
  have d1 : (t:Int) < n := by omega
  clear hO hT hR hV hct hcv hck hno r hA
  by_cases h0 : 0 ≤ D
  · have c1 : decide (D < 0) = false := by simpa using h0
    have HDB : Hid (distN D = D ∧ distB D = true) := by unfold distN distB; rw [if_pos h0]; exact ⟨rfl, by simpa using h0⟩
    clear h0
    go_enter Tryz.func13, Tryz.ntmps13
    go_wp2_with (go_at_call 38; go_must (refine (HO.out _ S0.out.ext).mono ?_; rintro e w1 ⟨q1, c1, q2, c2, rfl, Z⟩; have S1 := Lib.hid (S0.out.comp Z); have g1 := (S1.out.rd 1 rfl (by omega)).cI (k := t) (by omega); rw [HA.out] at g1; have pq := (S1.out.rd 1 rfl (by omega)).ptr; clear Z))
    go_ret3
    exact ⟨by rw [HDB.out.1, HDB.out.2]; rfl, S1.out.ext⟩
  · have c1 : decide (D < 0) = true := by simpa using h0
    have HDB : Hid (distN D = 0 ∧ distB D = false) := by unfold distN distB; rw [if_neg h0]; exact ⟨rfl, by simpa using h0⟩
    clear h0
    go_enter Tryz.func13, Tryz.ntmps13
    go_wp2_with (go_at_call 38; go_must (refine (HO.out _ S0.out.ext).mono ?_; rintro e w1 ⟨q1, c1, q2, c2, rfl, Z⟩; have S1 := Lib.hid (S0.out.comp Z); have g1 := (S1.out.rd 1 rfl (by omega)).cI (k := t) (by omega); rw [HA.out] at g1; have pq := (S1.out.rd 1 rfl (by omega)).ptr; clear Z))
    go_ret3
    exact ⟨by rw [HDB.out.1, HDB.out.2]; rfl, S1.out.ext⟩
theorem has08 (p : Option Addr) (n c : Nat) (l : List Int) (x : Int) (w : World) (hl : Rd w 1 p n (encI l)) :
    Calls Tryz.prog 40 #[.slice p n c, .int .i64 x] w fun e w' => e = .returned (.bool (inB l x)) ∧ Ext w w' := by
  have p1 := hl.ptr
  have n1 := hl.small
  have L1 := Lib.hid hl.nI
  have HL := Lib.hid hl; clear hl
  go_enter Tryz.func40, Tryz.ntmps40
  go_wp2
  go_loop [5] (fun i => ∃ k : Nat, k ≤ n ∧ i = .int .i64 k ∧ (l.take k).any (fun y => y == x) = false) (fun i => n - (intOf i).toNat)
  case atStart => exact ⟨0, Nat.zero_le _, rfl, rfl⟩
  case round =>
    obtain ⟨k, hk, rfl, ha⟩ := hrel
    have HA := Lib.hid ha; clear ha
    by_cases hlt : k < n
    · have g1 := HL.out.cI hlt
      have d1 : (0:Int) ≤ k := by omega
      have d2 : (k:Int) < n := by omega
      have hkL : k < l.length := by rw [← L1.out]; exact hlt
      cases hq : (nth l k == x) with
      | true =>
        have HF : Hid (inB l x = true) := any_true_at (fun y : Int => y == x) l k hkL hq
        go_wp2
        go_ret
        exact ⟨ret_bool HF.out.symm, Below.refl _ _⟩
      | false =>
        have HF := Lib.hid (any_step (fun y : Int => y == x) l k hkL HA.out hq)
        go_wp2
        go_round
        case rel => exact ⟨k + 1, by omega, by go_num, HF.out⟩
        case measure => simp [intOf]; omega
    · have HF : Hid (inB l x = false) := any_end (fun y : Int => y == x) l k (by rw [← L1.out]; exact hlt) HA.out
      go_wp2
      go_ret
      exact ⟨ret_bool HF.out.symm, Below.refl _ _⟩
set_option maxRecDepth 100000 in
set_option maxHeartbeats 4000000 in
theorem meet08 (p : Option Addr) (n c : Nat) (A : List Int) (q : Option Addr) (d : Nat) (B : List Int) (x : Int) (w : World) (hA : Rd w 1 p n (encI A)) (hB : Rd w 1 q n (encI B)) :
    Calls Tryz.prog 39 #[.slice p n c, .slice q n d, .int .i64 x] w fun e w' => e = .returned (.bool (meetR A B x n)) ∧ Ext w w' := by
  have p1 := hA.ptr
  have p2 := hB.ptr
  have n1 := hA.small
  have HA := Lib.hid hA; clear hA
  have HB := Lib.hid hB; clear hB
  go_enter Tryz.func39, Tryz.ntmps39
  go_wp2
  go_loop [7] (fun i => ∃ k : Nat, k ≤ n ∧ i = .int .i64 k ∧ Hid (meetR A B x k = false)) (fun i => n - (intOf i).toNat)
  case atStart => exact ⟨0, Nat.zero_le _, rfl, rfl⟩
  case round =>
    obtain ⟨k, hk, rfl, ha⟩ := hrel
    by_cases hlt : k < n
    · have g1 := HA.out.cI hlt
      have g2 := HB.out.cI hlt
      have d1 : (0:Int) ≤ k := by omega
      have d2 : (k:Int) < n := by omega
      have hstep : meetR A B x (k + 1) = (meetR A B x k || (decide (0 ≤ nth A k) && decide (nth A k ≤ x) && decide (0 ≤ nth B k) && decide (nth B k ≤ x))) := by
        unfold meetR; rw [List.range_succ, List.any_append]; simp
      rw [ha.out, Bool.false_or] at hstep
      have HN : Hid (∀ m, k + 1 ≤ m → meetR A B x (k + 1) = true → meetR A B x m = true) := fun m hm h => by
        unfold meetR at *
        rw [List.any_eq_true] at *
        obtain ⟨v, hv, h2⟩ := h
        exact ⟨v, List.mem_range.2 (by have := List.mem_range.1 hv; omega), h2⟩
      generalize nth A k = a at *
      generalize nth B k = b at *
      cases h1 : decide (0 ≤ a) with
      | false =>
        rw [h1] at hstep
        have HS := Lib.hid hstep
        clear hstep
        go_wp2
        go_round
        case rel => exact ⟨k + 1, by omega, by go_num, HS.out⟩
        case measure => simp [intOf]; omega
      | true =>
        cases h2 : decide (a ≤ x) with
        | false =>
          rw [h1, h2] at hstep
          have HS := Lib.hid hstep
          clear hstep
          go_wp2
          go_round
          case rel => exact ⟨k + 1, by omega, by go_num, HS.out⟩
          case measure => simp [intOf]; omega
        | true =>
          cases h3 : decide (0 ≤ b) with
          | false =>
            rw [h1, h2, h3] at hstep
            have HS := Lib.hid hstep
            clear hstep
            go_wp2
            go_round
            case rel => exact ⟨k + 1, by omega, by go_num, HS.out⟩
            case measure => simp [intOf]; omega
          | true =>
            cases h4 : decide (b ≤ x) with
            | false =>
              rw [h1, h2, h3, h4] at hstep
              have HS := Lib.hid hstep
              clear hstep
              go_wp2
              go_round
              case rel => exact ⟨k + 1, by omega, by go_num, HS.out⟩
              case measure => simp [intOf]; omega
            | true =>
              rw [h1, h2, h3, h4] at hstep
              have HS : Hid (meetR A B x n = true) := HN.out n (by omega) hstep
              clear hstep
              go_wp2
              go_ret
              exact ⟨ret_bool HS.out.symm, Below.refl _ _⟩
    · obtain rfl : n = k := by omega
      go_wp2
      go_ret
      exact ⟨ret_bool ha.out.symm, Below.refl _ _⟩
end Go.Proofs.YtgnjffnkmdodeaaGreat
/- The reference's searches (chapter 8): Steps. -/
namespace Go.Proofs.YtgnjffnkmdodeaaGreat
open Go Go.RowKit
set_option maxRecDepth 100000 in
set_option maxHeartbeats 4000000 in
theorem Steps08_no (po : Option Addr) (no co : Nat) (O : List Int) (pt : Option Addr) (nt ct : Nat) (T : List Int) (pr : Option Addr) (nr cr : Nat) (R : List Int) (pv : Option Addr) (nv cv : Nat) (V : List Int) (s t : Int) (w : World) (hO : Rd w 1 po no (encI O)) (hT : Rd w 1 pt nt (encI T)) (hR : Rd w 1 pr nr (encI R)) (hV : Rd w 1 pv nv (encI V)) (hct : nt ≤ ct) (hcv : nv ≤ cv) (hc : pairC (checkR O T R V) O s t ≠ 0) :
    Calls Tryz.prog 15 #[.agg #[.slice po no co, .slice pt nt ct, .slice pr nr cr, .slice pv nv cv], .int .i64 s, .int .i64 t] w fun e w' => e = .returned (.tuple #[.int .i64 0, .int .i64 (pairC (checkR O T R V) O s t)]) ∧ Ext w w' := by
  have HO := Lib.hid (fun W1 (h : Ext w W1) => both08_no po no co O pt nt ct T pr nr cr R pv nv cv V s t W1 (hO.ext h) (hT.ext h) (hR.ext h) (hV.ext h) hct hcv hc)
  have S0 := Lib.hid ((Sep.start w).al #[.slice po no co, .slice pt nt ct, .slice pr nr cr, .slice pv nv cv] 24 w.heap.size rfl)
  generalize pairC (checkR O T R V) O s t = c at *
  have hc0 : (c != 0) = true := by simpa using hc
  clear hO hT hR hV hct hcv hc
  go_enter Tryz.func15, Tryz.ntmps15
  go_wp2_with (go_at_call 38; go_must (refine (HO.out _ S0.out.ext).mono ?_; rintro e w1 ⟨q1, m1, c1, q2, m2, c2, rfl, hb⟩; have S1 := Lib.hid (S0.out.call hb); clear hb))
  go_ret2
  exact ⟨rfl, S1.out.ext⟩
set_option maxRecDepth 100000 in
set_option maxHeartbeats 8000000 in
theorem Steps08_yes (po : Option Addr) (no co : Nat) (O : List Int) (pt : Option Addr) (nt ct : Nat) (T : List Int) (pr : Option Addr) (nr cr : Nat) (R : List Int) (pv : Option Addr) (nv cv : Nat) (V : List Int) (n s t : Nat) (w : World) (hO : Rd w 1 po no (encI O)) (hT : Rd w 1 pt nt (encI T)) (hR : Rd w 1 pr nr (encI R)) (hV : Rd w 1 pv nv (encI V)) (hct : nt ≤ ct) (hcv : nv ≤ cv) (hck : checkR O T R V = true) (hno : O.length = n + 1) (hs : s < n) (ht : t < n) :
    Calls Tryz.prog 15 #[.agg #[.slice po no co, .slice pt nt ct, .slice pr nr cr, .slice pv nv cv], .int .i64 s, .int .i64 t] w fun e w' => e = .returned (.tuple #[.int .i64 (stepsN n (lev (rowL O T) n s) (lev (rowL R V) n t)), .int .i64 0]) ∧ Ext w w' := by
  have HO := Lib.hid (fun W1 (h : Ext w W1) => both08_yes po no co O pt nt ct T pr nr cr R pv nv cv V n s t W1 (hO.ext h) (hT.ext h) (hR.ext h) (hV.ext h) hct hcv hck hno hs ht)
  have S0 := Lib.hid ((Sep.start w).al #[.slice po no co, .slice pt nt ct, .slice pr nr cr, .slice pv nv cv] 24 w.heap.size rfl)
  have r := offB_parts (halfB_off (checkR_half hck).2.2.1)
  have hn : n ≤ 200 := by omega
  have hrev : Rev (rowL O T) (rowL R V) n := by have := nxR_rev hck false; rw [hno] at this; exact this
  have HM : Hid (∀ k : Nat, meetR ((List.range n).map fun v => lev (rowL O T) n s v) ((List.range n).map fun v => lev (rowL R V) n t v) k n = meetB n (lev (rowL O T) n s) (lev (rowL R V) n t) k) := fun k => meetR_is _ _ n k
  have HA : Hid (∀ k : Int, inB ((List.range n).map fun v => lev (rowL O T) n s v) k = hasL n (lev (rowL O T) n s) k) := fun k => hasL_is _ n k
  have HB : Hid (∀ k : Int, inB ((List.range n).map fun v => lev (rowL R V) n t v) k = hasL n (lev (rowL R V) n t) k) := fun k => hasL_is _ n k
  have HFM := Lib.hid (fun k h1 h2 => first_meet hrev hs ht (k := k) h1 h2)
  have HNM := Lib.hid (fun h1 => no_meet hrev hs ht h1)
  have HLT := Lib.hid (fun (k : Nat) (h : hasL n (lev (rowL O T) n s) k = true) => has_lt hs h)
  have HRD : Hid (∀ q1 c1 q2 c2 w1, Rd w1 1 q1 n (encI ((List.range n).map fun v => lev (rowL O T) n s v)) → Rd w1 1 q2 n (encI ((List.range n).map fun v => lev (rowL R V) n t v)) → ∀ k : Nat, Calls Tryz.prog 39 #[.slice q1 n c1, .slice q2 n c2, .int .i64 k] w1 fun e w' => e = .returned (.bool (meetB n (lev (rowL O T) n s) (lev (rowL R V) n t) k)) ∧ Ext w1 w') := fun q1 c1 q2 c2 w1 h1 h2 k => by
    have := meet08 q1 n c1 _ q2 c2 _ (k:Int) w1 h1 h2
    rwa [HM.out k] at this
  have HHA : Hid (∀ q1 c1 w1, Rd w1 1 q1 n (encI ((List.range n).map fun v => lev (rowL O T) n s v)) → ∀ k : Int, Calls Tryz.prog 40 #[.slice q1 n c1, .int .i64 k] w1 fun e w' => e = .returned (.bool (hasL n (lev (rowL O T) n s) k)) ∧ Ext w1 w') := fun q1 c1 w1 h1 k => by
    have := has08 q1 n c1 _ k w1 h1
    rwa [HA.out k] at this
  have HHB : Hid (∀ q1 c1 w1, Rd w1 1 q1 n (encI ((List.range n).map fun v => lev (rowL R V) n t v)) → ∀ k : Int, Calls Tryz.prog 40 #[.slice q1 n c1, .int .i64 k] w1 fun e w' => e = .returned (.bool (hasL n (lev (rowL R V) n t) k)) ∧ Ext w1 w') := fun q1 c1 w1 h1 k => by
    have := has08 q1 n c1 _ k w1 h1
    rwa [HB.out k] at this
  clear hO hT hR hV hct hcv hck hno r hrev HM HA HB
  generalize ((List.range n).map fun v => lev (rowL O T) n s v) = A at *
  generalize ((List.range n).map fun v => lev (rowL R V) n t v) = B at *
  generalize lev (rowL O T) n s = f at *
  generalize lev (rowL R V) n t = g at *
  go_enter Tryz.func15, Tryz.ntmps15
  go_wp2_with (go_at_call 38; go_must (refine (HO.out _ S0.out.ext).mono ?_; rintro e w1 ⟨q1, c1, q2, c2, rfl, Z⟩; have S1 := Lib.hid (Sep.call ((Sep.start w).call S0.out.ext) Z.ext); have RA := Lib.hid (Z.rd 1 rfl (by omega)); have RB := Lib.hid (Z.rd 0 rfl (by omega)); clear Z))
  go_loopw [11] (fun i wr => ∃ k : Nat, k ≤ n + 1 ∧ i = .int .i64 k ∧ Hid (∀ j : Nat, j < k → meetB n f g j = false) ∧ Ext w1 wr) (fun i _ => n + 1 - (intOf i).toNat)
  case atStart => exact ⟨0, Nat.zero_le _, rfl, fun j hj => by omega, Below.refl _ _⟩
  case round =>
    obtain ⟨k, hk, rfl, ha, hE⟩ := hrel
    by_cases hlt : k ≤ n
    · have c1' : decide ((k:Int) ≤ n) = true := by simpa using hlt
      have HC := Lib.hid (HRD.out q1 c1 q2 c2 _ (RA.out.ext hE) (RB.out.ext hE) k)
      cases hm : meetB n f g k with
      | true =>
        rw [hm] at HC
        have HF := Lib.hid (HFM.out k ha.out hm)
        have HE := Lib.hid (Ext.trans S1.out.ext hE)
        clear hm hE
        go_wp2_with (go_at_call 39; go_must (refine HC.out.mono ?_; rintro e w2 ⟨rfl, hb⟩; have HE2 := Lib.hid (Ext.trans HE.out hb); clear hb))
        go_ret2
        exact ⟨by rw [HF.out]; rfl, HE2.out⟩
      | false =>
        rw [hm] at HC
        have HF : Hid (∀ j : Nat, j < k + 1 → meetB n f g j = false) := fun j hj => by
          by_cases e : j = k
          · subst e; exact hm
          · exact ha.out j (by omega)
        have HE := Lib.hid hE
        clear hm hE
        go_wp2_with (go_at_call 39; go_must (refine HC.out.mono ?_; rintro e w2 ⟨rfl, hb⟩; have HE2 := Lib.hid (Ext.trans HE.out hb); clear hb))
        go_roundw
        case rel => exact ⟨k + 1, by omega, by go_num, HF.out, HE2.out⟩
        case measure => simp [intOf]; omega
    · have c1' : decide (k ≤ n) = false := by simpa using hlt
      have c2' : decide ((k:Int) ≤ n) = false := by simp; omega
      have HN := Lib.hid (HNM.out (fun j hj => ha.out j (by omega)))
      have HE := Lib.hid hE
      clear hE ha hlt hk
      go_wp2
      go_loopw [12] (fun i wx => ∃ k : Nat, k < n ∧ i = .int .i64 k ∧ Hid (stepsK n f g (n + 1 - k) k = stepsN n f g) ∧ Ext w1 wx) (fun i _ => n - (intOf i).toNat)
      case atStart => exact ⟨0, by omega, rfl, rfl, HE.out⟩
      case round =>
        clear HE
        obtain ⟨k, hk, rfl, ha, hE⟩ := hrel
        have HA1 := Lib.hid (fun W1 (h : Ext w1 W1) => HHA.out q1 c1 W1 (RA.out.ext h) ((k:Int) + 1))
        have HB1 := Lib.hid (fun W1 (h : Ext w1 W1) => HHB.out q2 c2 W1 (RB.out.ext h) ((k:Int) + 1))
        have HE := Lib.hid hE
        have hsk := ha.out
        rw [show n + 1 - k = (n - k) + 1 by omega] at hsk
        cases h1 : hasL n f ((k:Int) + 1) with
        | false =>
          rw [h1] at HA1
          rw [stepsK_end (HN.out k) (fun h => by rw [h1] at h; cases h.1)] at hsk
          have HS := Lib.hid hsk
          clear hsk h1 hE
          go_wp2_with (go_at_call 40; go_must (refine (HA1.out _ HE.out).mono ?_; rintro e w3 ⟨rfl, hb⟩; have HE3 := Lib.hid (Ext.trans HE.out hb); clear hb))
          go_ret2
          exact ⟨by rw [← HS.out]; rfl, Ext.trans S1.out.ext HE3.out⟩
        | true =>
          rw [h1] at HA1
          cases h2 : hasL n g ((k:Int) + 1) with
          | false =>
            rw [h2] at HB1
            rw [stepsK_end (HN.out k) (fun h => by rw [h2] at h; cases h.2)] at hsk
            have HS := Lib.hid hsk
            clear hsk h1 h2 hE
            go_wp2_with (first
              | (go_at_call 40; have _t := HE3; go_must (refine (HB1.out _ HE3.out).mono ?_; rintro e w4 ⟨rfl, hb⟩; have HE4 := Lib.hid (Ext.trans HE3.out hb); clear hb))
              | (go_at_call 40; go_must (refine (HA1.out _ HE.out).mono ?_; rintro e w3 ⟨rfl, hb⟩; have HE3 := Lib.hid (Ext.trans HE.out hb); clear hb)))
            go_ret2
            exact ⟨by rw [← HS.out]; rfl, Ext.trans S1.out.ext HE4.out⟩
          | true =>
            rw [h2] at HB1
            rw [stepsK_go (HN.out k) ⟨h1, h2⟩] at hsk
            have hk1 : k + 1 < n := HLT.out (k + 1) h1
            rw [show n - k = n + 1 - (k + 1) by omega] at hsk
            have HS := Lib.hid hsk
            clear hsk h1 h2 hE
            go_wp2_with (first
              | (go_at_call 40; have _t := HE3; go_must (refine (HB1.out _ HE3.out).mono ?_; rintro e w4 ⟨rfl, hb⟩; have HE4 := Lib.hid (Ext.trans HE3.out hb); clear hb))
              | (go_at_call 40; go_must (refine (HA1.out _ HE.out).mono ?_; rintro e w3 ⟨rfl, hb⟩; have HE3 := Lib.hid (Ext.trans HE.out hb); clear hb)))
            go_roundw
            case rel => exact ⟨k + 1, hk1, by go_num, HS.out, HE4.out⟩
            case measure => simp [intOf]; omega
end Go.Proofs.YtgnjffnkmdodeaaGreat
/- The reference's searches (chapter 8): Path. -/
namespace Go.Proofs.YtgnjffnkmdodeaaGreat
open Go Go.RowKit
set_option maxRecDepth 100000 in
set_option maxHeartbeats 4000000 in
theorem Path08_no (po : Option Addr) (no co : Nat) (O : List Int) (pt : Option Addr) (nt ct : Nat) (T : List Int) (pr : Option Addr) (nr cr : Nat) (R : List Int) (pv : Option Addr) (nv cv : Nat) (V : List Int) (s t : Int) (w : World) (hO : Rd w 1 po no (encI O)) (hT : Rd w 1 pt nt (encI T)) (hR : Rd w 1 pr nr (encI R)) (hV : Rd w 1 pv nv (encI V)) (hct : nt ≤ ct) (hcv : nv ≤ cv) (hc : pairC (checkR O T R V) O s t ≠ 0) :
    Calls Tryz.prog 17 #[.agg #[.slice po no co, .slice pt nt ct, .slice pr nr cr, .slice pv nv cv], .int .i64 s, .int .i64 t] w fun e w' => e = .returned (.tuple #[.slice none 0 0, .bool false, .int .i64 (pairC (checkR O T R V) O s t)]) ∧ Ext w w' := by
  have HO := Lib.hid (fun W1 (h : Ext w W1) => both08_no po no co O pt nt ct T pr nr cr R pv nv cv V s t W1 (hO.ext h) (hT.ext h) (hR.ext h) (hV.ext h) hct hcv hc)
  have S0 := Lib.hid ((Sep.start w).al #[.slice po no co, .slice pt nt ct, .slice pr nr cr, .slice pv nv cv] 24 w.heap.size rfl)
  generalize pairC (checkR O T R V) O s t = c at *
  have hc0 : (c != 0) = true := by simpa using hc
  clear hO hT hR hV hct hcv hc
  go_enter Tryz.func17, Tryz.ntmps17
  go_wp2_with (go_at_call 38; go_must (refine (HO.out _ S0.out.ext).mono ?_; rintro e w1 ⟨q1, m1, c1, q2, m2, c2, rfl, hb⟩; have S1 := Lib.hid (S0.out.call hb); clear hb))
  go_ret3
  exact ⟨rfl, S1.out.ext⟩
set_option maxRecDepth 100000 in
set_option maxHeartbeats 8000000 in
theorem Path08_yes (po : Option Addr) (no co : Nat) (O : List Int) (pt : Option Addr) (nt ct : Nat) (T : List Int) (pr : Option Addr) (nr cr : Nat) (R : List Int) (pv : Option Addr) (nv cv : Nat) (V : List Int) (n s t : Nat) (w : World) (hO : Rd w 1 po no (encI O)) (hT : Rd w 1 pt nt (encI T)) (hR : Rd w 1 pr nr (encI R)) (hV : Rd w 1 pv nv (encI V)) (hct : nt ≤ ct) (hcv : nv ≤ cv) (hck : checkR O T R V = true) (hno : O.length = n + 1) (hs : s < n) (ht : t < n) :
    Calls Tryz.prog 17 #[.agg #[.slice po no co, .slice pt nt ct, .slice pr nr cr, .slice pv nv cv], .int .i64 s, .int .i64 t] w fun e w' => ∃ q c, e = .returned (.tuple #[.slice q (pathR (rowL O T) (rowL R V) n s t).length c, .bool (distB (lev (rowL O T) n s t)), .int .i64 0]) ∧ Sep w w' [.own 3 1 q (pathR (rowL O T) (rowL R V) n s t).length c (encI (pathR (rowL O T) (rowL R V) n s t))] := by
  obtain ⟨i0, hi0, hz0, hz1, hz2⟩ := info_parts infI
  have HO := Lib.hid (fun W1 (h : Ext w W1) => both08_yes po no co O pt nt ct T pr nr cr R pv nv cv V n s t W1 (hO.ext h) (hT.ext h) (hR.ext h) (hV.ext h) hct hcv hck hno hs ht)
  have S0 := Lib.hid ((Sep.start w).al #[.slice po no co, .slice pt nt ct, .slice pr nr cr, .slice pv nv cv] 24 w.heap.size rfl)
  have r := offB_parts (halfB_off (checkR_half hck).2.2.1)
  have hn : n ≤ 200 := by omega
  have hrev : Rev (rowL O T) (rowL R V) n := by have := nxR_rev hck false; rw [hno] at this; exact this
  have hin : InN (rowL O T) n := by have := nxR_in hck false; rw [hno] at this; exact this
  have HOU : Hid (∀ a : Nat, a < n → ∀ W1, Ext w W1 → Calls Tryz.prog 43 #[.agg #[.slice po no co, .slice pt nt ct, .slice pr nr cr, .slice pv nv cv], .int .i64 a] W1 fun e w' => ∃ q c, e = .returned (.tuple #[.slice q (rowL O T a).length c, .bool true]) ∧ Sep W1 w' [.own 3 1 q (rowL O T a).length c (encI (rowL O T a))]) := fun a ha W1 h => by
    have := Out04 po no co O pt nt ct T pr nr cr R pv nv cv V W1 a (hO.ext h) (hT.ext h) (hR.ext h) (hV.ext h) hct hcv
    have oB : outB true O a = true := by unfold outB; simp; omega
    rw [hck, oB, outL_yes oB, Int.toNat_natCast] at this
    exact this
  have hA : nth ((List.range n).map fun v => lev (rowL O T) n s v) t = lev (rowL O T) n s t := levL_nth ht
  have HLB : Hid (∀ v, v < n → nth ((List.range n).map fun v => lev (rowL R V) n t v) v = lev (rowL R V) n t v) := fun v hv => levL_nth hv
  have HREV := Lib.hid hrev
  have HIN := Lib.hid hin
  clear hO hT hR hV hct hcv hck hno r hrev hin
  generalize rowL O T = na at *
  generalize rowL R V = nb at *
  generalize ((List.range n).map fun v => lev na n s v) = A at *
  generalize ((List.range n).map fun v => lev nb n t v) = B at *
  have d1 : (t:Int) < n := by omega
  by_cases h0 : 0 ≤ lev na n s t
  · have hpl := path_law HREV.out HIN.out hs ht h0
    have hlv := lev_rev HREV.out hs ht
    obtain ⟨D, hD⟩ : ∃ D : Nat, lev nb n t s = D := ⟨(lev nb n t s).toNat, by omega⟩
    have HWK := Lib.hid (fun i (hi : i < D) => walk_step HREV.out HIN.out hs ht hD hi)
    have HEND := Lib.hid (fun i (hi : i ≤ D) => path_end HREV.out HIN.out hs ht hD hi)
    have hDs : (lev na n s t).toNat = D := by omega
    have HPR : Hid (pathR na nb n s t = pathI na (lev nb n t) D s ∧ distB (lev na n s t) = true) := by
      refine ⟨by rw [hpl.1, hDs], by unfold distB; simpa using h0⟩
    have HP0 : Hid ((pathI na (lev nb n t) D s).length = D + 1 ∧ nth (pathI na (lev nb n t) D s) 0 = s) := ⟨pathI_len _ _ _ _, by rw [pathI_nth _ _ _ _ (Nat.zero_le _), pathL_first]⟩
    have HD := Lib.hid (show D < n by have := lev_lt (nx := nb) ht hs; omega)
    generalize pathI na (lev nb n t) D s = P at *
    have hA2 : nth A t = (D:Int) := by omega
    have HA := Lib.hid hA2
    have e0 : decide ((D:Int) < 0) = false := by simp
    clear hpl hlv hD hDs h0 hA hA2
    go_enter Tryz.func17, Tryz.ntmps17
    go_wp2_with (go_at_call 38; go_must (refine (HO.out _ S0.out.ext).mono ?_; rintro e w1 ⟨q1, c1, q2, c2, rfl, Z⟩; have S1 := Lib.hid ((S0.out.comp Z).pick [0, 1, 2] (by decide) rfl); have g1 := (S1.out.rd 1 rfl (by omega)).cI (k := t) (by omega); rw [HA.out] at g1; have pq := (S1.out.rd 1 rfl (by omega)).ptr; clear Z))
    have S2 := Lib.hid ((S1.out.alrow #[.int .i64 (s:Int)] 3 1 1 w1.heap.size rfl (by decide) rfl).pick [0, 1, 3] (by decide) rfl)
    clear g1 pq
    go_loopg [12, 13, 14, 15, 16, 17] D (fun g v12 v13 _ _ _ _ wr => ∃ (i : Nat) (q : Option Addr) (c : Nat), i + g = D ∧ v12 = .slice q (i + 1) c ∧ v13 = .int .i64 (nth P i) ∧ Sep w wr [.own 3 1 q (i + 1) c (encI (P.take (i + 1))), .own 3 1 q2 n c2 (encI B), .blk w.heap.size 24 #[.slice po no co, .slice pt nt ct, .slice pr nr cr, .slice pv nv cv]])
    case atStart => exact ⟨0, some ⟨w1.heap.size, 0, none⟩, 1, by omega, rfl, by rw [HP0.out.2], by
      have e : P.take (0 + 1) = [(s:Int)] := by
        rw [take_succ_nth P 0 (by rw [HP0.out.1]; omega), HP0.out.2]; rfl
      rw [e]; exact S2.out⟩
    case round =>
      clear S0 S1 S2
      obtain ⟨i, q, c, hig, rfl, rfl, S⟩ := hrel
      have yz := (S.blk 2 rfl).lt; have y0 := (S.blk 2 rfl).cell 0; have y1 := (S.blk 2 rfl).cell 1; have y2 := (S.blk 2 rfl).cell 2; have y3 := (S.blk 2 rfl).cell 3
      have hi200 : i ≤ 200 := by have := HD.out; omega
      cases gk with
      | zero =>
        obtain rfl : i = D := by omega
        rw [List.take_of_length_le (by rw [HP0.out.1]; omega)] at S
        rw [(HEND.out i (Nat.le_refl _)).2 rfl]
        have HL := Lib.hid HP0.out.1
        have SH := Lib.hid S; clear S
        go_wp2
        go_ret3
        exact ⟨q, c, by rw [HPR.out.1, HPR.out.2, HL.out]; rfl, by rw [HPR.out.1, HL.out]; exact SH.out.pick [0] (by decide) rfl⟩
      | succ g =>
        obtain ⟨a, h1, ha, h3, ⟨x0, hx0⟩, h5⟩ := HWK.out i (by omega)
        rw [show ((D - i : Nat) : Int) - 1 = (g : Int) by omega] at hx0 h5
        have HX0 := Lib.hid hx0
        have H5 := Lib.hid (h5 x0 hx0)
        have c1 : ((a:Int) != (t:Int)) = true := by
          have := mt (HEND.out i (by omega)).1 (by omega)
          rw [h1] at this
          simpa using this
        have h3' : lev nb n t a = (g:Int) + 1 := by omega
        have HRB := Lib.hid (HIN.out a ha)
        have HCR := Lib.hid (fun W1 (h : Ext w W1) => HOU.out a ha W1 h)
        have HLA : Hid (nth B a = (g:Int) + 1) := by unfold Hid; rw [HLB.out a ha]; exact h3'
        generalize na a = RW at *
        rw [h1]
        have hiD : i < D := by omega
        have HIG := Lib.hid hig
        have hgs : g ≤ 200 := by have := HD.out; omega
        have a1 : (a:Int) < n := by omega
        clear hx0 h5 h1 h3 h3' hig
        have SH := Lib.hid S; clear S
        go_wp2_with (go_at_call 43; go_must (refine (HCR.out _ SH.out.ext).mono ?_; rintro e w5 ⟨q4, c4, rfl, Z⟩; have SI := Lib.hid (SH.out.comp Z); have hsm := own_sm (Z.own 0 rfl); clear Z))
        go_loopg [16, 17] RW.length (fun g2 v16 v17 wx => ∃ z : Int, g2 ≤ RW.length ∧ v17 = .int .i64 z ∧ Hid (z = (g2:Int) - 1) ∧ v16 = .int .i64 (((RW.drop g2).find? (fun x => lev nb n t x.toNat == (g:Int))).getD 0) ∧ Sep w wx [.own 3 1 q4 RW.length c4 (encI RW), .own 3 1 q (i + 1) c (encI (P.take (i + 1))), .own 3 1 q2 n c2 (encI B), .blk w.heap.size 24 #[.slice po no co, .slice pt nt ct, .slice pr nr cr, .slice pv nv cv]])
        case atStart => exact ⟨_, Nat.le_refl _, rfl, by unfold Hid; first | rfl | omega, by simp, SI.out⟩
        case round =>
          clear SH SI y0 y1 y2 y3 yz
          obtain ⟨z, hgl, rfl, hz, rfl, S⟩ := hrel
          cases gk with
          | zero =>
            obtain rfl : z = -1 := by have := hz.out; omega
            rw [List.drop_zero, HX0.out]
            have N1 := Lib.hid H5.out.1
            have N2 := Lib.hid H5.out.2
            have pq := (S.rd 1 rfl (by omega)).ptr
            have SH := Lib.hid S; clear S
            go_wp2_with (at_builtin; go_must (refine wpList_append_sep rfl _ _ _ rfl 3 i0 _ 1 8 Tryz.underlying22 hi0 hz0 hz1 hz2 rfl (by omega) (SH.out.junk _) 1 q (i + 1) c _ rfl rfl _ 1 1 _ rfl (Rd.oneI _ _ _) (one_encI _) (by have := HD.out; omega) (by have := HD.out; omega) ?_; intro q' c' w7 S' hsz; have S6 := Lib.hid S'; clear S' hsz))
            go_roundg g
            case measure => omega
            case rel => exact ⟨i + 1, q', c', by have := HIG.out; omega, rfl, by rw [N1.out], by rw [N2.out, encI_append]; exact S6.out.pick [1, 2, 3] (by decide) rfl⟩
          | succ j =>
            obtain rfl : z = (j:Int) := by have := hz.out; omega
            have hjl : j < RW.length := by omega
            have hsc := scan_step (p := fun x => lev nb n t x.toNat == (g:Int)) hjl
            obtain ⟨r1, r2⟩ := HRB.out _ (nth_mem hjl)
            have e1 := (S.rd 0 rfl (own_sm (S.own 0 rfl))).cI hjl
            obtain ⟨b, hb⟩ : ∃ b : Nat, nth RW j = (b : Int) := ⟨(nth RW j).toNat, by omega⟩
            rw [hb] at e1 r1 r2 hsc
            simp only [Int.toNat_natCast] at hsc
            have e2 := (S.rd 2 rfl (by omega)).cI (k := b) (by omega)
            have e3 := (S.rd 2 rfl (by omega)).cI (k := a) ha
            rw [HLB.out b (by omega)] at e2
            rw [HLA.out] at e3
            have p1 := (S.rd 0 rfl (own_sm (S.own 0 rfl))).ptr
            have p2 := (S.rd 2 rfl (by omega)).ptr
            have d2 : (0:Int) ≤ j := by omega
            have d3 : (j:Int) < RW.length := by omega
            have d4 : (b:Int) < n := r2
            clear hz
            obtain ⟨y, hy⟩ : ∃ y, y = lev nb n t b := ⟨_, rfl⟩
            rw [← hy] at e2 hsc
            have HB := Lib.hid hb
            obtain ⟨old, ho⟩ : ∃ old, old = ((RW.drop (j + 1)).find? (fun x => lev nb n t x.toNat == (g:Int))).getD 0 := ⟨_, rfl⟩
            rw [← ho] at hsc ⊢
            clear hb hy ho
            cases k1 : decide (0 ≤ y) with
            | false =>
              have k2 : (y == (g:Int)) = false := by
                have := of_decide_eq_false k1
                rw [beq_eq_false_iff_ne]; omega
              rw [k2, cond_false] at hsc
              have HS := Lib.hid hsc
              clear hsc k2
              have SH := Lib.hid S; clear S
              go_wp2
              have u1 := fun x : ExtOf wr => x.ext.cell e1
              have u2 := fun x : ExtOf wr => x.ext.cell e2
              have u3 := fun x : ExtOf wr => x.ext.cell e3
              refine wp_region_ext (by kernel_rfl) (by kernel_rfl) ?_
              repeat (go_big_quiet_step ((fail)))
              refine wpQuiet_nil ?_
              rintro w9 ⟨⟨_, hb9⟩, rfl⟩
              have S4 := Lib.hid (SH.out.call hb9)
              clear u1 u2 u3 e1 e2 e3 hb9
              go_wp2
              go_roundg j
              case measure => omega
              case rel => exact ⟨_, by omega, rfl, by unfold Hid; go_num, by rw [HS.out], S4.out⟩
            | true =>
              cases k2 : (y == (g:Int)) with
              | false =>
                rw [k2, cond_false] at hsc
                have HS := Lib.hid hsc
                clear hsc
                have SH := Lib.hid S; clear S
                go_wp2
                have u1 := fun x : ExtOf wr => x.ext.cell e1
                have u2 := fun x : ExtOf wr => x.ext.cell e2
                have u3 := fun x : ExtOf wr => x.ext.cell e3
                refine wp_region_ext (by kernel_rfl) (by kernel_rfl) ?_
                repeat (go_big_quiet_step ((fail)))
                refine wpQuiet_nil ?_
                rintro w9 ⟨⟨_, hb9⟩, rfl⟩
                have S4 := Lib.hid (SH.out.call hb9)
                clear u1 u2 u3 e1 e2 e3 hb9
                go_wp2
                go_roundg j
                case measure => omega
                case rel => exact ⟨_, by omega, rfl, by unfold Hid; go_num, by rw [HS.out], S4.out⟩
              | true =>
                rw [k2, cond_true] at hsc
                have HS := Lib.hid hsc
                clear hsc
                have SH := Lib.hid S; clear S
                go_wp2
                have u1 := fun x : ExtOf wr => x.ext.cell e1
                have u2 := fun x : ExtOf wr => x.ext.cell e2
                have u3 := fun x : ExtOf wr => x.ext.cell e3
                refine wp_region_ext (by kernel_rfl) (by kernel_rfl) ?_
                repeat (go_big_quiet_step ((fail)))
                refine wpQuiet_nil ?_
                rintro w9 ⟨⟨_, hb9⟩, rfl⟩
                have S4 := Lib.hid (SH.out.call hb9)
                clear u1 u2 u3 e1 e2 e3 hb9
                have e1 := (S4.out.rd 0 rfl (own_sm (S4.out.own 0 rfl))).cI hjl
                rw [HB.out] at e1
                go_wp2
                go_roundg j
                case measure => omega
                case rel => exact ⟨_, by omega, rfl, by unfold Hid; go_num, by rw [HS.out], S4.out⟩
  · have HNEG : Hid (pathR na nb n s t = [] ∧ distB (lev na n s t) = false) := ⟨by unfold pathR; rw [if_neg h0], by unfold distB; simp; omega⟩
    have HA := Lib.hid hA
    generalize lev na n s t = D at *
    have e0 : decide (D < 0) = true := by simpa using h0
    clear h0 hA
    go_enter Tryz.func17, Tryz.ntmps17
    go_wp2_with (go_at_call 38; go_must (refine (HO.out _ S0.out.ext).mono ?_; rintro e w1 ⟨q1, c1, q2, c2, rfl, Z⟩; have S1 := Lib.hid ((S0.out.comp Z).pick [0, 1, 2] (by decide) rfl); have g1 := (S1.out.rd 1 rfl (by omega)).cI (k := t) (by omega); rw [HA.out] at g1; have pq := (S1.out.rd 1 rfl (by omega)).ptr; clear Z))
    go_ret3
    exact ⟨none, 0, by rw [HNEG.out.1, HNEG.out.2]; rfl, by rw [HNEG.out.1]; exact ((Sep.start w).call S1.out.ext).nilrow _ _⟩
end Go.Proofs.YtgnjffnkmdodeaaGreat
/- The reference's searches (chapter 8): Walk. -/
namespace Go.Proofs.YtgnjffnkmdodeaaGreat
open Go Go.RowKit
set_option maxRecDepth 100000 in
set_option maxHeartbeats 8000000 in
theorem Walk08 (po : Option Addr) (no co : Nat) (O : List Int) (pt : Option Addr) (nt ct : Nat) (T : List Int) (pr : Option Addr) (nr cr : Nat) (R : List Int) (pv : Option Addr) (nv cv : Nat) (V : List Int) (p : Option Addr) (m c : Nat) (l : List Int) (w : World) (hO : Rd w 1 po no (encI O)) (hT : Rd w 1 pt nt (encI T)) (hR : Rd w 1 pr nr (encI R)) (hV : Rd w 1 pv nv (encI V)) (hct : nt ≤ ct) (hcv : nv ≤ cv) (hl : Rd w 1 p m (encI l)) :
    Calls Tryz.prog 21 #[.agg #[.slice po no co, .slice pt nt ct, .slice pr nr cr, .slice pv nv cv], .slice p m c] w fun e w' => e = .returned (.bool (walkB (checkR O T R V) O T l)) ∧ Ext w w' := by
  have HCk := Lib.hid (fun W1 (h : Ext w W1) => Check04 po no co O pt nt ct T pr nr cr R pv nv cv V W1 (hO.ext h) (hT.ext h) (hR.ext h) (hV.ext h) hct hcv)
  have HHas := Lib.hid (fun W1 (h : Ext w W1) (v u : Int) => Has04 po no co O pt nt ct T pr nr cr R pv nv cv V W1 v u (hO.ext h) (hT.ext h) (hR.ext h) (hV.ext h) hct hcv)
  have S0 := Lib.hid ((Sep.start w).al #[.slice po no co, .slice pt nt ct, .slice pr nr cr, .slice pv nv cv] 24 w.heap.size rfl)
  have p1 := hl.ptr
  have n1 := hl.small
  have L1 := Lib.hid hl.nI
  have LO := Lib.hid hO.nI
  have n2 := hO.small
  generalize hck : checkR O T R V = ck at *
  clear hO hT hR hV hct hcv hck
  have HL := Lib.hid hl; clear hl
  cases ck with
  | false =>
    have HW : Hid (walkB false O T l = false) := by unfold Hid walkB; simp [outB]
    go_enter Tryz.func21, Tryz.ntmps21
    go_wp2
    obtain ⟨X, hX⟩ : ∃ X, X = w.alloc (.cells #[.slice po no co, .slice pt nt ct, .slice pr nr cr, .slice pv nv cv] 24) := ⟨_, rfl⟩
    have SX := Lib.hid (hX ▸ S0.out : Sep w X [.blk w.heap.size 24 #[.slice po no co, .slice pt nt ct, .slice pr nr cr, .slice pv nv cv]])
    rw [← hX]
    clear hX S0
    have yz := (SX.out.blk 0 rfl).lt; have y0 := (SX.out.blk 0 rfl).cell 0; have y1 := (SX.out.blk 0 rfl).cell 1; have y2 := (SX.out.blk 0 rfl).cell 2; have y3 := (SX.out.blk 0 rfl).cell 3
    have J := Lib.hid (fun x : ExtOf X => HCk.out x.val (Ext.trans SX.out.ext x.ext))
    have u0 := fun x : ExtOf X => x.ext.cell y0
    have u1 := fun x : ExtOf X => x.ext.cell y1
    have u2 := fun x : ExtOf X => x.ext.cell y2
    have u3 := fun x : ExtOf X => x.ext.cell y3
    refine wp_region_ext (by kernel_rfl) (by kernel_rfl) ?_
    repeat (go_big_quiet_step (((go_at_call 47; exact Calls.ext_of (J.out _)))))
    refine wpQuiet_nil ?_
    rintro w9 ⟨⟨_, hb9⟩, rfl⟩
    have S1 := Lib.hid (SX.out.call hb9)
    go_wp2
    go_ret
    exact ⟨ret_bool HW.out.symm, S1.out.ext⟩
  | true =>
    by_cases h0 : m = 0
    · have HW : Hid (walkB true O T l = false) := by
        unfold Hid walkB
        rw [show decide (0 < l.length) = false by rw [decide_eq_false_iff_not]; have := L1.out; omega]; rfl
      have c1 : ((m:Int) == 0) = true := by simp [h0]
      clear h0
      go_enter Tryz.func21, Tryz.ntmps21
      go_wp2
      obtain ⟨X, hX⟩ : ∃ X, X = w.alloc (.cells #[.slice po no co, .slice pt nt ct, .slice pr nr cr, .slice pv nv cv] 24) := ⟨_, rfl⟩
      have SX := Lib.hid (hX ▸ S0.out : Sep w X [.blk w.heap.size 24 #[.slice po no co, .slice pt nt ct, .slice pr nr cr, .slice pv nv cv]])
      rw [← hX]
      clear hX S0
      have yz := (SX.out.blk 0 rfl).lt; have y0 := (SX.out.blk 0 rfl).cell 0; have y1 := (SX.out.blk 0 rfl).cell 1; have y2 := (SX.out.blk 0 rfl).cell 2; have y3 := (SX.out.blk 0 rfl).cell 3
      have J := Lib.hid (fun x : ExtOf X => HCk.out x.val (Ext.trans SX.out.ext x.ext))
      have u0 := fun x : ExtOf X => x.ext.cell y0
      have u1 := fun x : ExtOf X => x.ext.cell y1
      have u2 := fun x : ExtOf X => x.ext.cell y2
      have u3 := fun x : ExtOf X => x.ext.cell y3
      refine wp_region_ext (by kernel_rfl) (by kernel_rfl) ?_
      repeat (go_big_quiet_step (((go_at_call 47; exact Calls.ext_of (J.out _)))))
      refine wpQuiet_nil ?_
      rintro w9 ⟨⟨_, hb9⟩, rfl⟩
      have S1 := Lib.hid (SX.out.call hb9)
      go_wp2
      go_ret
      exact ⟨ret_bool HW.out.symm, S1.out.ext⟩
    · have c1 : ((m:Int) == 0) = false := by rw [beq_eq_false_iff_ne]; omega
      have m0 : 0 < m := by omega
      have m0' : (0:Int) < m := by omega
      obtain ⟨x0, hx0⟩ : ∃ x0, x0 = nth l 0 := ⟨_, rfl⟩
      have HX0 := Lib.hid hx0
      clear hx0 h0
      by_cases h1 : x0 < 0
      · have d1 : decide (x0 < 0) = true := by simpa using h1
        have HW : Hid (walkB true O T l = false) := by
          unfold Hid walkB
          rw [← HX0.out, show outB true O x0 = false by unfold outB; simp; omega]; simp
        clear h1
        go_enter Tryz.func21, Tryz.ntmps21
        go_wp2
        obtain ⟨X, hX⟩ : ∃ X, X = w.alloc (.cells #[.slice po no co, .slice pt nt ct, .slice pr nr cr, .slice pv nv cv] 24) := ⟨_, rfl⟩
        have SX := Lib.hid (hX ▸ S0.out : Sep w X [.blk w.heap.size 24 #[.slice po no co, .slice pt nt ct, .slice pr nr cr, .slice pv nv cv]])
        rw [← hX]
        clear hX S0
        have yz := (SX.out.blk 0 rfl).lt; have y0 := (SX.out.blk 0 rfl).cell 0; have y1 := (SX.out.blk 0 rfl).cell 1; have y2 := (SX.out.blk 0 rfl).cell 2; have y3 := (SX.out.blk 0 rfl).cell 3
        have J := Lib.hid (fun x : ExtOf X => HCk.out x.val (Ext.trans SX.out.ext x.ext))
        have u0 := fun x : ExtOf X => x.ext.cell y0
        have u1 := fun x : ExtOf X => x.ext.cell y1
        have u2 := fun x : ExtOf X => x.ext.cell y2
        have u3 := fun x : ExtOf X => x.ext.cell y3
        have g1 := SX.out.ext.cell (HL.out.cI m0)
        rw [← HX0.out] at g1
        have u4 := fun x : ExtOf X => x.ext.cell g1
        refine wp_region_ext (by kernel_rfl) (by kernel_rfl) ?_
        repeat (go_big_quiet_step (((go_at_call 47; exact Calls.ext_of (J.out _)))))
        refine wpQuiet_nil ?_
        rintro w9 ⟨⟨_, hb9⟩, rfl⟩
        have S1 := Lib.hid (SX.out.call hb9)
        go_wp2
        go_ret
        exact ⟨ret_bool HW.out.symm, S1.out.ext⟩
      · have d1 : decide (x0 < 0) = false := by simpa using h1
        by_cases h2 : (no:Int) - 1 ≤ x0
        · have d2 : decide ((no:Int) - 1 ≤ x0) = true := by simpa using h2
          have HW : Hid (walkB true O T l = false) := by
            unfold Hid walkB
            have e1 := LO.out
            rw [← HX0.out, show outB true O x0 = false by unfold outB; simp; omega]; simp
          clear h1 h2
          go_enter Tryz.func21, Tryz.ntmps21
          go_wp2
          obtain ⟨X, hX⟩ : ∃ X, X = w.alloc (.cells #[.slice po no co, .slice pt nt ct, .slice pr nr cr, .slice pv nv cv] 24) := ⟨_, rfl⟩
          have SX := Lib.hid (hX ▸ S0.out : Sep w X [.blk w.heap.size 24 #[.slice po no co, .slice pt nt ct, .slice pr nr cr, .slice pv nv cv]])
          rw [← hX]
          clear hX S0
          have yz := (SX.out.blk 0 rfl).lt; have y0 := (SX.out.blk 0 rfl).cell 0; have y1 := (SX.out.blk 0 rfl).cell 1; have y2 := (SX.out.blk 0 rfl).cell 2; have y3 := (SX.out.blk 0 rfl).cell 3
          have J := Lib.hid (fun x : ExtOf X => HCk.out x.val (Ext.trans SX.out.ext x.ext))
          have u0 := fun x : ExtOf X => x.ext.cell y0
          have u1 := fun x : ExtOf X => x.ext.cell y1
          have u2 := fun x : ExtOf X => x.ext.cell y2
          have u3 := fun x : ExtOf X => x.ext.cell y3
          have g1 := SX.out.ext.cell (HL.out.cI m0)
          rw [← HX0.out] at g1
          have u4 := fun x : ExtOf X => x.ext.cell g1
          refine wp_region_ext (by kernel_rfl) (by kernel_rfl) ?_
          repeat (go_big_quiet_step (((go_at_call 47; exact Calls.ext_of (J.out _)))))
          refine wpQuiet_nil ?_
          rintro w9 ⟨⟨_, hb9⟩, rfl⟩
          have S1 := Lib.hid (SX.out.call hb9)
          go_wp2
          go_ret
          exact ⟨ret_bool HW.out.symm, S1.out.ext⟩
        · have d2 : decide ((no:Int) - 1 ≤ x0) = false := by simpa using h2
          have HB : Hid (outB true O (nth l 0) = true) := by
            have e1 := LO.out
            unfold Hid; rw [← HX0.out]; unfold outB; simp; omega
          clear h1 h2
          go_enter Tryz.func21, Tryz.ntmps21
          go_wp2
          obtain ⟨X, hX⟩ : ∃ X, X = w.alloc (.cells #[.slice po no co, .slice pt nt ct, .slice pr nr cr, .slice pv nv cv] 24) := ⟨_, rfl⟩
          have SX := Lib.hid (hX ▸ S0.out : Sep w X [.blk w.heap.size 24 #[.slice po no co, .slice pt nt ct, .slice pr nr cr, .slice pv nv cv]])
          rw [← hX]
          clear hX S0
          have yz := (SX.out.blk 0 rfl).lt; have y0 := (SX.out.blk 0 rfl).cell 0; have y1 := (SX.out.blk 0 rfl).cell 1; have y2 := (SX.out.blk 0 rfl).cell 2; have y3 := (SX.out.blk 0 rfl).cell 3
          have J := Lib.hid (fun x : ExtOf X => HCk.out x.val (Ext.trans SX.out.ext x.ext))
          have u0 := fun x : ExtOf X => x.ext.cell y0
          have u1 := fun x : ExtOf X => x.ext.cell y1
          have u2 := fun x : ExtOf X => x.ext.cell y2
          have u3 := fun x : ExtOf X => x.ext.cell y3
          have g1 := SX.out.ext.cell (HL.out.cI m0)
          rw [← HX0.out] at g1
          have u4 := fun x : ExtOf X => x.ext.cell g1
          refine wp_region_ext (by kernel_rfl) (by kernel_rfl) ?_
          repeat (go_big_quiet_step (((go_at_call 47; exact Calls.ext_of (J.out _)))))
          refine wpQuiet_nil ?_
          rintro w9 ⟨⟨_, hb9⟩, rfl⟩
          have S1 := Lib.hid (SX.out.call hb9)
          clear u0 u1 u2 u3 u4 hb9 y0 y1 y2 y3 yz g1 SX J
          go_wp2
          go_loopw [5] (fun i wr => ∃ k : Nat, k + 1 ≤ m ∧ i = .int .i64 ((k:Int) + 1) ∧ Hid (((List.range k).all fun i => hasB true O T (nth l i) (nth l (i + 1))) = true) ∧ Sep w wr [.blk w.heap.size 24 #[.slice po no co, .slice pt nt ct, .slice pr nr cr, .slice pv nv cv]]) (fun i _ => m - (intOf i).toNat)
          case atStart => exact ⟨0, by omega, rfl, rfl, S1.out⟩
          case round =>
            clear S1
            obtain ⟨k, hk, rfl, ha, S⟩ := hrel
            have yz := (S.blk 0 rfl).lt; have y0 := (S.blk 0 rfl).cell 0; have y1 := (S.blk 0 rfl).cell 1; have y2 := (S.blk 0 rfl).cell 2; have y3 := (S.blk 0 rfl).cell 3
            by_cases hlt : k + 1 < m
            · have g1 := S.ext.cell (HL.out.cI (k := k) (by omega))
              have g2 := S.ext.cell (HL.out.cI hlt)
              have HH1 := Lib.hid (fun W1 (h : Ext w W1) => HHas.out W1 h (nth l k) (nth l (k + 1)))
              have d0 : (0:Int) ≤ k := by omega
              have d1 : (k:Int) < m := by omega
              have d2 : (0:Int) ≤ (k:Int) + 1 := by omega
              have d3 : (k:Int) + 1 < m := by omega
              cases hq : hasB true O T (nth l k) (nth l (k + 1)) with
              | false =>
                rw [hq] at HH1
                have HW : Hid (walkB true O T l = false) := by
                  unfold Hid walkB
                  have : ((List.range (l.length - 1)).all fun i => hasB true O T (nth l i) (nth l (i + 1))) = false :=
                    List.all_eq_false.2 ⟨k, List.mem_range.2 (by have := L1.out; omega), by rw [hq]; simp⟩
                  rw [this, Bool.and_false]
                clear ha hq
                have SH := Lib.hid S; clear S
                generalize nth l k = x at *
                generalize nth l (k + 1) = y at *
                go_wp2
                have u0 := fun x : ExtOf wr => x.ext.cell y0
                have u1 := fun x : ExtOf wr => x.ext.cell y1
                have u2 := fun x : ExtOf wr => x.ext.cell y2
                have u3 := fun x : ExtOf wr => x.ext.cell y3
                have u4 := fun x : ExtOf wr => x.ext.cell g1
                have u5 := fun x : ExtOf wr => x.ext.cell g2
                refine wp_region_mix [true, true, true, true, true, true, true, true, true, true, false, false] (HasQ false) (by kernel_rfl) (by kernel_rfl) (by kernel_rfl) (fun _ _ _ _ _ h => ⟨h.a, h.b'⟩) ?_
                simp only [nfM]
                repeat (go_big_quiet_step ((fail)))
                refine wpQuiet_nil ⟨⟨fun vs W1 hE hd => ?_, fun vs W1 hE hd => ?_, trivial⟩, fun vs W1 hE hkn => ?_⟩
                · simp [putM, execOp, go_sem]
                  exact (HH1.out _ (Ext.trans SH.out.ext hE)).mono fun e w' ⟨h1, h2⟩ => ⟨_, h1, HasQ.of10, h2⟩
                · have k1 := HasQ.a (hd 10 (by decide +kernel) rfl) rfl
                  simp [putM, execOp, go_sem, k1]
                  exact ⟨HasQ.of11, Below.refl _ _⟩
                simp only [knowM] at hkn
                have k1 := HasQ.b' hkn.2.1 rfl
                have S1 := Lib.hid (SH.out.call hE)
                simp only [putM, k1, List.length_cons, List.length_nil, Nat.zero_add, Nat.reduceAdd, List.drop_succ_cons, List.drop_zero]
                clear u0 u1 u2 u3 u4 u5 k1 hE y0 y1 y2 y3 yz g1 g2 SH
                go_wp2
                go_ret
                exact ⟨ret_bool HW.out.symm, S1.out.ext⟩
              | true =>
                rw [hq] at HH1
                have HA : Hid (((List.range (k + 1)).all fun i => hasB true O T (nth l i) (nth l (i + 1))) = true) := by
                  unfold Hid; rw [List.range_succ, List.all_append, ha.out]; simp [hq]
                clear ha hq
                have SH := Lib.hid S; clear S
                generalize nth l k = x at *
                generalize nth l (k + 1) = y at *
                go_wp2
                have u0 := fun x : ExtOf wr => x.ext.cell y0
                have u1 := fun x : ExtOf wr => x.ext.cell y1
                have u2 := fun x : ExtOf wr => x.ext.cell y2
                have u3 := fun x : ExtOf wr => x.ext.cell y3
                have u4 := fun x : ExtOf wr => x.ext.cell g1
                have u5 := fun x : ExtOf wr => x.ext.cell g2
                refine wp_region_mix [true, true, true, true, true, true, true, true, true, true, false, false] (HasQ true) (by kernel_rfl) (by kernel_rfl) (by kernel_rfl) (fun _ _ _ _ _ h => ⟨h.a, h.b'⟩) ?_
                simp only [nfM]
                repeat (go_big_quiet_step ((fail)))
                refine wpQuiet_nil ⟨⟨fun vs W1 hE hd => ?_, fun vs W1 hE hd => ?_, trivial⟩, fun vs W1 hE hkn => ?_⟩
                · simp [putM, execOp, go_sem]
                  exact (HH1.out _ (Ext.trans SH.out.ext hE)).mono fun e w' ⟨h1, h2⟩ => ⟨_, h1, HasQ.of10, h2⟩
                · have k1 := HasQ.a (hd 10 (by decide +kernel) rfl) rfl
                  simp [putM, execOp, go_sem, k1]
                  exact ⟨HasQ.of11, Below.refl _ _⟩
                simp only [knowM] at hkn
                have k1 := HasQ.b' hkn.2.1 rfl
                have S1 := Lib.hid (SH.out.call hE)
                simp only [putM, k1, List.length_cons, List.length_nil, Nat.zero_add, Nat.reduceAdd, List.drop_succ_cons, List.drop_zero]
                clear u0 u1 u2 u3 u4 u5 k1 hE y0 y1 y2 y3 yz g1 g2 SH
                go_wp2
                go_roundw
                case rel => exact ⟨k + 1, by omega, by go_num, HA.out, S1.out⟩
                case measure => simp [intOf]; omega
            · obtain rfl : m = k + 1 := by omega
              have HW : Hid (walkB true O T l = true) := by
                unfold Hid walkB
                have e1 := L1.out
                rw [HB.out, show l.length - 1 = k by omega, ha.out]
                simp; omega
              have SH := Lib.hid S; clear S
              clear ha
              go_wp2
              go_ret
              exact ⟨ret_bool HW.out.symm, SH.out.ext⟩
end Go.Proofs.YtgnjffnkmdodeaaGreat
/- The law DistTells: a place is just so far, by just so many steps and just this path, or not at all, or it is refused; a row of places is a walk, or not. -/
namespace Go.Proofs.YtgnjffnkmdodeaaGreat
open Go Go.RowKit
theorem six8 (po : Option Addr) (no co : Nat) (O : List Int) (pt : Option Addr) (nt ct : Nat) (T : List Int) (pr : Option Addr) (nr cr : Nat) (R : List Int) (pv : Option Addr) (nv cv : Nat) (V : List Int) (s t : Int) (w : World) (hO : Rd w 1 po no (encI O)) (hT : Rd w 1 pt nt (encI T)) (hR : Rd w 1 pr nr (encI R)) (hV : Rd w 1 pv nv (encI V)) (hct : nt ≤ ct) (hcv : nv ≤ cv) : ∃ (dn : Int) (db : Bool) (st : Int) (P : List Int) (cc : Int),
    (∀ W1, Ext w W1 → Calls Tryz.prog 12 #[.agg #[.slice po no co, .slice pt nt ct, .slice pr nr cr, .slice pv nv cv], .int .i64 s, .int .i64 t] W1 fun e w' => e = .returned (.tuple #[.int .i64 dn, .bool db, .int .i64 cc]) ∧ Ext W1 w') ∧
    (∀ (qo : Option Addr) (do' : Nat) (qt : Option Addr) (dt : Nat) (qr : Option Addr) (dr : Nat) (qv : Option Addr) (dv : Nat) W1, R4 W1 qo no qt nt qr nr qv nv O T R V → nt ≤ dt → nv ≤ dv → Calls Tryz.prog 13 #[.agg #[.slice qo no do', .slice qt nt dt, .slice qr nr dr, .slice qv nv dv], .int .i64 s, .int .i64 t] W1 fun e w' => e = .returned (.tuple #[.int .i64 dn, .bool db, .int .i64 cc]) ∧ Ext W1 w') ∧
    (∀ W1, Ext w W1 → Calls Tryz.prog 14 #[.agg #[.slice po no co, .slice pt nt ct, .slice pr nr cr, .slice pv nv cv], .int .i64 s, .int .i64 t] W1 fun e w' => e = .returned (.tuple #[.int .i64 st, .int .i64 cc]) ∧ Ext W1 w') ∧
    (∀ (qo : Option Addr) (do' : Nat) (qt : Option Addr) (dt : Nat) (qr : Option Addr) (dr : Nat) (qv : Option Addr) (dv : Nat) W1, R4 W1 qo no qt nt qr nr qv nv O T R V → nt ≤ dt → nv ≤ dv → Calls Tryz.prog 15 #[.agg #[.slice qo no do', .slice qt nt dt, .slice qr nr dr, .slice qv nv dv], .int .i64 s, .int .i64 t] W1 fun e w' => e = .returned (.tuple #[.int .i64 st, .int .i64 cc]) ∧ Ext W1 w') ∧
    (∀ W1, Ext w W1 → Calls Tryz.prog 16 #[.agg #[.slice po no co, .slice pt nt ct, .slice pr nr cr, .slice pv nv cv], .int .i64 s, .int .i64 t] W1 fun e w' => ∃ q c, e = .returned (.tuple #[.slice q P.length c, .bool db, .int .i64 cc]) ∧ Sep W1 w' [.own 3 1 q P.length c (encI P)]) ∧
    (∀ (qo : Option Addr) (do' : Nat) (qt : Option Addr) (dt : Nat) (qr : Option Addr) (dr : Nat) (qv : Option Addr) (dv : Nat) W1, R4 W1 qo no qt nt qr nr qv nv O T R V → nt ≤ dt → nv ≤ dv → Calls Tryz.prog 17 #[.agg #[.slice qo no do', .slice qt nt dt, .slice qr nr dr, .slice qv nv dv], .int .i64 s, .int .i64 t] W1 fun e w' => ∃ q c, e = .returned (.tuple #[.slice q P.length c, .bool db, .int .i64 cc]) ∧ Sep W1 w' [.own 3 1 q P.length c (encI P)]) := by
  by_cases hc : pairC (checkR O T R V) O s t = 0
  · obtain ⟨hck, n, a, b, hno, rfl, rfl, ha, hb⟩ := pairC_zero hc
    exact ⟨_, _, _, _, _,
      fun W1 h => DistG_yes po no co O pt nt ct T pr nr cr R pv nv cv V n a b W1 (hO.ext h) (hT.ext h) (hR.ext h) (hV.ext h) hct hcv hck hno ha hb,
      fun qo do' qt dt qr dr qv dv W1 h h1 h2 => Dist08_yes qo no do' O qt nt dt T qr nr dr R qv nv dv V n a b W1 h.o h.t h.r h.v h1 h2 hck hno ha hb,
      fun W1 h => StepsG_yes po no co O pt nt ct T pr nr cr R pv nv cv V n a b W1 (hO.ext h) (hT.ext h) (hR.ext h) (hV.ext h) hct hcv hck hno ha hb,
      fun qo do' qt dt qr dr qv dv W1 h h1 h2 => Steps08_yes qo no do' O qt nt dt T qr nr dr R qv nv dv V n a b W1 h.o h.t h.r h.v h1 h2 hck hno ha hb,
      fun W1 h => PathG_yes po no co O pt nt ct T pr nr cr R pv nv cv V n a b W1 (hO.ext h) (hT.ext h) (hR.ext h) (hV.ext h) hct hcv hck hno ha hb,
      fun qo do' qt dt qr dr qv dv W1 h h1 h2 => Path08_yes qo no do' O qt nt dt T qr nr dr R qv nv dv V n a b W1 h.o h.t h.r h.v h1 h2 hck hno ha hb⟩
  · have nil : ∀ {f : Nat} {args : Array Value} {W1 : World} {c : Int}, Calls Tryz.prog f args W1 (fun e w' => e = .returned (.tuple #[.slice none 0 0, .bool false, .int .i64 c]) ∧ Ext W1 w') →
        Calls Tryz.prog f args W1 (fun e w' => ∃ q c', e = .returned (.tuple #[.slice q ([] : List Int).length c', .bool false, .int .i64 c]) ∧ Sep W1 w' [.own 3 1 q ([] : List Int).length c' (encI [])]) := fun {f args W1 c} h =>
      h.mono fun e w' ⟨h1, h2⟩ => ⟨none, 0, h1, ((Sep.start W1).call h2).nilrow _ _⟩
    exact ⟨_, _, _, _, _,
      fun W1 h => DistG_no po no co O pt nt ct T pr nr cr R pv nv cv V s t W1 (hO.ext h) (hT.ext h) (hR.ext h) (hV.ext h) hct hcv hc,
      fun qo do' qt dt qr dr qv dv W1 h h1 h2 => Dist08_no qo no do' O qt nt dt T qr nr dr R qv nv dv V s t W1 h.o h.t h.r h.v h1 h2 hc,
      fun W1 h => StepsG_no po no co O pt nt ct T pr nr cr R pv nv cv V s t W1 (hO.ext h) (hT.ext h) (hR.ext h) (hV.ext h) hct hcv hc,
      fun qo do' qt dt qr dr qv dv W1 h h1 h2 => Steps08_no qo no do' O qt nt dt T qr nr dr R qv nv dv V s t W1 h.o h.t h.r h.v h1 h2 hc,
      fun W1 h => nil (PathG_no po no co O pt nt ct T pr nr cr R pv nv cv V s t W1 (hO.ext h) (hT.ext h) (hR.ext h) (hV.ext h) hct hcv hc),
      fun qo do' qt dt qr dr qv dv W1 h h1 h2 => nil (Path08_no qo no do' O qt nt dt T qr nr dr R qv nv dv V s t W1 h.o h.t h.r h.v h1 h2 hc)⟩
set_option maxRecDepth 100000 in
set_option maxHeartbeats 16000000 in
theorem lawTells8 (po : Option Addr) (no co : Nat) (O : List Int) (pt : Option Addr) (nt ct : Nat) (T : List Int) (pr : Option Addr) (nr cr : Nat) (R : List Int) (pv : Option Addr) (nv cv : Nat) (V : List Int) (s t : Int) (pl : Option Addr) (nl cl : Nat) (l : List Int) (w : World) (hO : Rd w 1 po no (encI O)) (hT : Rd w 1 pt nt (encI T)) (hR : Rd w 1 pr nr (encI R)) (hV : Rd w 1 pv nv (encI V)) (hct : nt ≤ ct) (hcv : nv ≤ cv) (hl : Rd w 1 pl nl (encI l)) : Calls Tryz.prog 3 #[.agg #[.slice po no co, .slice pt nt ct, .slice pr nr cr, .slice pv nv cv], .int .i64 s, .int .i64 t, .slice pl nl cl] w fun e w' => e = .returned (.bool true) ∧ Ext w w' := by
  have HBig := Lib.hid (fun W1 (h : Ext w W1) => Big04 po no co O pt nt ct T pr nr cr R pv nv cv V W1 (hO.ext h) (hT.ext h) (hR.ext h) (hV.ext h))
  have S0 := Lib.hid ((Sep.start w).al #[.slice po no co, .slice pt nt ct, .slice pr nr cr, .slice pv nv cv] 24 w.heap.size rfl)
  cases hbig : bigR O T R V with
  | true =>
    rw [hbig] at HBig
    clear hO hT hR hV hl
    go_enter Tryz.func3, Tryz.ntmps3
    go_wp2_with (go_at_call 10; go_must (refine (HBig.out _ S0.out.ext).mono ?_; rintro e w1 ⟨rfl, hb1⟩; have S1 := Lib.hid (S0.out.call hb1); have xz := (S1.out.blk 0 rfl).lt; have x0 := (S1.out.blk 0 rfl).cell 0; have x1 := (S1.out.blk 0 rfl).cell 1; have x2 := (S1.out.blk 0 rfl).cell 2; have x3 := (S1.out.blk 0 rfl).cell 3; clear hb1))
    go_ret
    exact ⟨rfl, S1.out.ext⟩
  | false =>
    rw [hbig] at HBig
    by_cases h40 : 40 < nl
    · have c1 : decide ((40:Int) < nl) = true := by simp; omega
      clear hO hT hR hV hl h40
      go_enter Tryz.func3, Tryz.ntmps3
      go_wp2_with (go_at_call 10; go_must (refine (HBig.out _ S0.out.ext).mono ?_; rintro e w1 ⟨rfl, hb1⟩; have S1 := Lib.hid (S0.out.call hb1); have xz := (S1.out.blk 0 rfl).lt; have x0 := (S1.out.blk 0 rfl).cell 0; have x1 := (S1.out.blk 0 rfl).cell 1; have x2 := (S1.out.blk 0 rfl).cell 2; have x3 := (S1.out.blk 0 rfl).cell 3; clear hb1))
      go_ret
      exact ⟨rfl, S1.out.ext⟩
    · have c1 : decide ((40:Int) < nl) = false := by simp; omega
      have hbd := bigR_bd hbig
      have l1 := hO.nI
      have l2 := hT.nI
      have l3 := hR.nI
      have l4 := hV.nI
      have HOwn := Lib.hid (fun W1 (h : Ext w W1) => Own04 po no co O pt nt ct T pr nr cr R pv nv cv V W1 (hO.ext h) (hT.ext h) (hR.ext h) (hV.ext h) (by omega) (by omega) (by omega) (by omega))
      obtain ⟨dn, db, st, P, cc, k1, k2, k3, k4, k5, k6⟩ := six8 po no co O pt nt ct T pr nr cr R pv nv cv V s t w hO hT hR hV hct hcv
      have HD := Lib.hid k1
      have HD8 := Lib.hid k2
      have HS := Lib.hid k3
      have HS8 := Lib.hid k4
      have HP := Lib.hid k5
      have HP8 := Lib.hid k6
      have HL := Lib.hid hl
      have HW := Lib.hid (fun W1 (h : Ext w W1) => WalkG po no co O pt nt ct T pr nr cr R pv nv cv V pl nl cl l W1 (hO.ext h) (hT.ext h) (hR.ext h) (hV.ext h) hct hcv (hl.ext h))
      have HW8 := Lib.hid (fun (qo : Option Addr) (do' : Nat) (qt : Option Addr) (dt : Nat) (qr : Option Addr) (dr : Nat) (qv : Option Addr) (dv : Nat) W1 (h : R4 W1 qo no qt nt qr nr qv nv O T R V) (h1 : nt ≤ dt) (h2 : nv ≤ dv) (h3 : Ext w W1) => Walk08 qo no do' O qt nt dt T qr nr dr R qv nv dv V pl nl cl l W1 h.o h.t h.r h.v h1 h2 (hl.ext h3))
      have HSame := Lib.hid (fun (qo : Option Addr) (do' : Nat) (qt : Option Addr) (dt : Nat) (qr : Option Addr) (dr : Nat) (qv : Option Addr) (dv : Nat) W1 (h0 : Ext w W1) (h : R4 W1 qo no qt nt qr nr qv nv O T R V) => Same04T po no co O pt nt ct T pr nr cr R pv nv cv V qo no do' qt nt dt qr nr dr qv nv dv W1 (hO.ext h0) (hT.ext h0) (hR.ext h0) (hV.ext h0) h.o h.t h.r h.v)
      clear hO hT hR hV hl hbig hbd l1 l2 l3 l4 h40 k1 k2 k3 k4 k5 k6
      generalize walkB (checkR O T R V) O T l = wb at *
      go_enter Tryz.func3, Tryz.ntmps3
      go_wp2_with (first
        | (go_at_call 17; go_must (refine (HP8.out qo do' qt dt qr dr qv dv _ (KO.out.ext S7.out.ext) C1 C2).mono ?_; rintro e w8 ⟨q8, c8, rfl, Z⟩; have S8 := Lib.hid (S7.out.comp Z); have x8z := Nat.lt_of_lt_of_le HB.out.lt S8.out.ext.size; have x80 := S8.out.ext.cell (HB.out.cell 0); have x81 := S8.out.ext.cell (HB.out.cell 1); have x82 := S8.out.ext.cell (HB.out.cell 2); have x83 := S8.out.ext.cell (HB.out.cell 3); have y8z := (S8.out.blk 2 rfl).lt; have y80 := (S8.out.blk 2 rfl).cell 0; have y81 := (S8.out.blk 2 rfl).cell 1; have y82 := (S8.out.blk 2 rfl).cell 2; have y83 := (S8.out.blk 2 rfl).cell 3; clear Z))
        | (go_at_call 16; go_must (refine (HP.out _ (Ext.trans E2.out S6.out.ext)).mono ?_; rintro e w7 ⟨q7, c7, rfl, Z⟩; have S7 := Lib.hid (S6.out.comp Z); have x7z := Nat.lt_of_lt_of_le HB.out.lt S7.out.ext.size; have x70 := S7.out.ext.cell (HB.out.cell 0); have x71 := S7.out.ext.cell (HB.out.cell 1); have x72 := S7.out.ext.cell (HB.out.cell 2); have x73 := S7.out.ext.cell (HB.out.cell 3); have y7z := (S7.out.blk 1 rfl).lt; have y70 := (S7.out.blk 1 rfl).cell 0; have y71 := (S7.out.blk 1 rfl).cell 1; have y72 := (S7.out.blk 1 rfl).cell 2; have y73 := (S7.out.blk 1 rfl).cell 3; clear Z))
        | (go_at_call 15; go_must (refine (HS8.out qo do' qt dt qr dr qv dv _ (KO.out.ext S5.out.ext) C1 C2).mono ?_; rintro e w6 ⟨rfl, hb⟩; have S6 := Lib.hid (S5.out.call hb); have x6z := Nat.lt_of_lt_of_le HB.out.lt S6.out.ext.size; have x60 := S6.out.ext.cell (HB.out.cell 0); have x61 := S6.out.ext.cell (HB.out.cell 1); have x62 := S6.out.ext.cell (HB.out.cell 2); have x63 := S6.out.ext.cell (HB.out.cell 3); have y6z := (S6.out.blk 0 rfl).lt; have y60 := (S6.out.blk 0 rfl).cell 0; have y61 := (S6.out.blk 0 rfl).cell 1; have y62 := (S6.out.blk 0 rfl).cell 2; have y63 := (S6.out.blk 0 rfl).cell 3; clear hb))
        | (go_at_call 14; go_must (refine (HS.out _ (Ext.trans E2.out S4.out.ext)).mono ?_; rintro e w5 ⟨rfl, hb⟩; have S5 := Lib.hid (S4.out.call hb); have x5z := Nat.lt_of_lt_of_le HB.out.lt S5.out.ext.size; have x50 := S5.out.ext.cell (HB.out.cell 0); have x51 := S5.out.ext.cell (HB.out.cell 1); have x52 := S5.out.ext.cell (HB.out.cell 2); have x53 := S5.out.ext.cell (HB.out.cell 3); have y5z := (S5.out.blk 0 rfl).lt; have y50 := (S5.out.blk 0 rfl).cell 0; have y51 := (S5.out.blk 0 rfl).cell 1; have y52 := (S5.out.blk 0 rfl).cell 2; have y53 := (S5.out.blk 0 rfl).cell 3; clear hb))
        | (go_at_call 13; go_must (refine (HD8.out qo do' qt dt qr dr qv dv _ (KO.out.ext S3.out.ext) C1 C2).mono ?_; rintro e w4 ⟨rfl, hb⟩; have S4 := Lib.hid (S3.out.call hb); have x4z := Nat.lt_of_lt_of_le HB.out.lt S4.out.ext.size; have x40 := S4.out.ext.cell (HB.out.cell 0); have x41 := S4.out.ext.cell (HB.out.cell 1); have x42 := S4.out.ext.cell (HB.out.cell 2); have x43 := S4.out.ext.cell (HB.out.cell 3); have y4z := (S4.out.blk 0 rfl).lt; have y40 := (S4.out.blk 0 rfl).cell 0; have y41 := (S4.out.blk 0 rfl).cell 1; have y42 := (S4.out.blk 0 rfl).cell 2; have y43 := (S4.out.blk 0 rfl).cell 3; clear hb))
        | (go_at_call 12; go_must (refine (HD.out _ (Ext.trans E2.out S2.out.ext)).mono ?_; rintro e w3 ⟨rfl, hb⟩; have S3 := Lib.hid (S2.out.call hb); have x3z := Nat.lt_of_lt_of_le HB.out.lt S3.out.ext.size; have x30 := S3.out.ext.cell (HB.out.cell 0); have x31 := S3.out.ext.cell (HB.out.cell 1); have x32 := S3.out.ext.cell (HB.out.cell 2); have x33 := S3.out.ext.cell (HB.out.cell 3); have y3z := (S3.out.blk 0 rfl).lt; have y30 := (S3.out.blk 0 rfl).cell 0; have y31 := (S3.out.blk 0 rfl).cell 1; have y32 := (S3.out.blk 0 rfl).cell 2; have y33 := (S3.out.blk 0 rfl).cell 3; clear hb))
        | (go_at_call 11; go_must (refine (HOwn.out _ S1.out.ext).mono ?_; rintro e wo ⟨qo, do', qt, dt, qr, dr, qv, dv, rfl, k1, C1, C2, k2⟩; have KO := Lib.hid k1; have E2 := Lib.hid (Ext.trans S1.out.ext k2); have HB := Lib.hid ((S1.out.call k2).blk 0 rfl); have S2 := Lib.hid ((Sep.start wo).al #[.slice qo no do', .slice qt nt dt, .slice qr nr dr, .slice qv nv dv] 24 wo.heap.size rfl); have x20 := k2.cell x0; have x21 := k2.cell x1; have x22 := k2.cell x2; have x23 := k2.cell x3; have x2z := HB.out.lt; clear k1 k2))
        | (go_at_call 10; go_must (refine (HBig.out _ S0.out.ext).mono ?_; rintro e w1 ⟨rfl, hb1⟩; have S1 := Lib.hid (S0.out.call hb1); have xz := (S1.out.blk 0 rfl).lt; have x0 := (S1.out.blk 0 rfl).cell 0; have x1 := (S1.out.blk 0 rfl).cell 1; have x2 := (S1.out.blk 0 rfl).cell 2; have x3 := (S1.out.blk 0 rfl).cell 3; clear hb1)))
      clear S0 S1 S2 S3 S4 S5 S6 S7 HD HS HP HD8 HS8 HP8 HBig HOwn
      have I1 := Lib.hid (fun x : ExtOf w8 => IntsY _ _ _ _ c7 c8 P x.val ((S8.out.rdx 1 rfl).ext x.ext) ((S8.out.rdx 0 rfl).ext x.ext))
      have J1 := Lib.hid (fun x : ExtOf w8 => HW.out x.val (Ext.trans (Ext.trans E2.out S8.out.ext) x.ext))
      have J2 := Lib.hid (fun x : ExtOf w8 => HW8.out qo do' qt dt qr dr qv dv x.val ((KO.out.ext S8.out.ext).ext x.ext) C1 C2 (Ext.trans (Ext.trans E2.out S8.out.ext) x.ext))
      have J3 := Lib.hid (fun x : ExtOf w8 => HSame.out qo do' qt dt qr dr qv dv x.val (Ext.trans (Ext.trans E2.out S8.out.ext) x.ext) ((KO.out.ext S8.out.ext).ext x.ext))
      have z0 := fun x : ExtOf w8 => x.ext.cell x80
      have z1 := fun x : ExtOf w8 => x.ext.cell x81
      have z2 := fun x : ExtOf w8 => x.ext.cell x82
      have z3 := fun x : ExtOf w8 => x.ext.cell x83
      have t0 := fun x : ExtOf w8 => x.ext.cell y80
      have t1 := fun x : ExtOf w8 => x.ext.cell y81
      have t2 := fun x : ExtOf w8 => x.ext.cell y82
      have t3 := fun x : ExtOf w8 => x.ext.cell y83
      refine wp_region_ext (by kernel_rfl) (by kernel_rfl) ?_
      repeat (go_big_quiet_step (((first | (go_at_call 18; exact Calls.ext_of (Dists _)) | (go_at_call 19; exact Calls.ext_of (I1.out _)) | (go_at_call 20; exact Calls.ext_of (J1.out _)) | (go_at_call 21; exact Calls.ext_of (J2.out _)) | (go_at_call 22; exact Calls.ext_of (J3.out _))))))
      refine wpQuiet_nil ?_
      rintro w9 ⟨⟨_, hb9⟩, rfl⟩
      try go_wp2
      go_ret
      exact ⟨rfl, Ext.trans (Ext.trans E2.out S8.out.ext) hb9⟩
end Go.Proofs.YtgnjffnkmdodeaaGreat
/- An argument that is a graph, opened: what its slices read. -/
namespace Go.Proofs.YtgnjffnkmdodeaaGreat
open Go Go.RowKit Go.ChangeShapes Go.WideShapes Go.ChangeAt Go.Deep Go.Joins
theorem exists_list {α : Type} [Inhabited α] {n : Nat} {p : Nat → α → Prop} (h : ∀ i, i < n → ∃ x, p i x) : ∃ l : List α, l.length = n ∧ ∀ i, i < n → p i (nth l i) := by
  induction n with
  | zero => exact ⟨[], rfl, fun i hi => by omega⟩
  | succ n ih =>
    obtain ⟨l, hl, hp⟩ := ih fun i hi => h i (by omega)
    obtain ⟨x, hx⟩ := h n (by omega)
    refine ⟨l ++ [x], by simp [hl], fun i hi => ?_⟩
    by_cases e : i = n
    · subst e
      have : nth (l ++ [x]) i = x := by subst hl; exact nth_append_new _ _
      rw [this]; exact hx
    · rw [nth_append_left _ _ _ (by omega)]; exact hp i (by omega)
theorem spot_of_cell {w : World} {a : Addr} {v : Value} (h : w.cell? a = some v) : a = ⟨a.block, a.off, none⟩ := by
  unfold World.cell? at h
  split at h
  · split at h
    · cases h
    · rename_i hs
      obtain ⟨b, o, s⟩ := a
      cases s with
      | none => rfl
      | some s => simp at hs
  · cases h
theorem Rd.of_cells {w : World} {size n : Nat} {a : Addr} {xs : List Value} (h0 : 0 < size) (hlen : xs.length = n * size) (hs : n ≤ 9223372036854775807) (hc : ∀ j, j < n * size → w.cell? (a.add j) = some (xs.getD j undef)) : Rd w size (some a) n xs := by
  rcases Nat.eq_zero_or_pos n with hn | hn
  · subst hn
    have : xs = [] := List.eq_nil_of_length_eq_zero (by simpa using hlen)
    subst this
    exact Rd.nil _ _ _
  · have h1 := hc 0 (Nat.mul_pos hn h0)
    have ha := spot_of_cell (a := a) (by simpa [Addr.add] using h1)
    refine ⟨hlen, .inr ⟨_, _, by rw [ha]⟩, hs, fun j hj => ?_⟩
    rw [← hc j hj]
    congr 1
    rw [ha, adr_some]
    by_cases hj0 : j = 0
    · subst hj0; simp [Addr.add]
    · simp [Addr.add, hj0]
section
variable {H : Type} {enc : TypeId × Value → H} {w : World} {base : Nat} {spare : Nat → Bool} {held : Bool}
theorem open_slice_fields {P : Program} {t e : TypeId} {fs : Array Field} {fuel : Nat} {cs : List Value} {x : DataW H × List MemPlace} (ht : P.underlying t = some (.slice e)) (he : P.underlying e = some (.struct fs))
    (hone : oneCellFields P fs = true) (hC : P.cellsOf e = fs.size) (h : DataW.trod enc P w base spare held fuel t cs = some x) :
    (cs = [.slice none 0 0]) ∨
    ∃ (a : Addr) (len cap : Nat), cs = [.slice (some a) len cap] ∧ len ≤ cap ∧ cap ≤ maxLen ∧
      ∀ i, i < len → ∀ (j : Nat) (f : Field), fs[j]? = some f → ∃ (v : Value) (y : DataW H × List MemPlace) (n : Nat), w.cell? (a.add (i * fs.size + j)) = some v ∧ DataW.trod enc P w base spare held n f.type [v] = some y := by
  rcases open_slice ht h with h0 | ⟨a, len, cap, m, n, D, Pl, hcs, hb, hl, hm, hmm, hx, hi⟩
  · exact .inl h0.1
  · refine .inr ⟨a, len, cap, hcs, hl, hm, fun i hil j f hj => ?_⟩
    obtain ⟨cs', hc, ht'⟩ := hi i (by rw [hmm]; split <;> omega)
    rw [hC] at hc
    obtain ⟨ys, n', hn', hy, hlen, hyl, hf⟩ := DataW.trod_struct he ht'
    obtain ⟨_, hcl, hat⟩ := World.cells?_some hc
    obtain ⟨ho, hk⟩ := hone_of hone j f hj
    have hjl : j < fs.size := (Array.getElem?_eq_some_iff.1 hj).1
    have hcell := hat j hjl
    have hv : cs'[j]? = some (cs'[j]'(by omega)) := List.getElem?_eq_getElem (by omega)
    have h1 := hf j f hj
    rw [ho, hk] at h1
    have hone' : (cs'.drop j).take 1 = [cs'[j]'(by omega)] := by
      rw [List.drop_eq_getElem_cons (by omega)]
      rfl
    rw [hone'] at h1
    have hys : ys[j]? = some (ys[j]'(by omega)) := List.getElem?_eq_getElem (by omega)
    refine ⟨_, _, _, ?_, h1.trans hys⟩
    rw [← Go.Deep.add_add, hcell, hv]
theorem open_edges {t : TypeId} {fuel : Nat} {v : Value} {x : DataW H × List MemPlace} (ht : Tryz.prog.underlying t = some (.slice 53)) (h : DataW.trod enc Tryz.prog w base spare held fuel t [v] = some x) :
    ∃ p n c E, v = .slice p n c ∧ Rd w 2 p n (encE E) := by
  rcases open_slice_fields ht Tryz.underlying53 (by kernel_rfl) (by kernel_rfl) h with h0 | ⟨a, len, cap, hcs, hl, hm, hi⟩
  · simp at h0; exact ⟨none, 0, 0, [], h0, Rd.nil _ _ _⟩
  · simp at hcs
    have hl2 : len ≤ 9223372036854775807 := by unfold maxLen at hm; omega
    have hE : ∀ i, i < len → ∃ e : Int × Int, w.cell? (a.add (i * 2)) = some (.int .i64 e.1) ∧ w.cell? (a.add (i * 2 + 1)) = some (.int .i64 e.2) := by
      intro i hil
      obtain ⟨v1, y1, n1, c1, t1⟩ := hi i hil 0 _ rfl
      obtain ⟨v2, y2, n2, c2, t2⟩ := hi i hil 1 _ rfl
      obtain ⟨k1, e1, _⟩ := DataW.trod_int Tryz.underlying3 t1
      obtain ⟨k2, e2, _⟩ := DataW.trod_int Tryz.underlying3 t2
      simp at e1 e2
      subst e1 e2
      exact ⟨(k1, k2), c1, c2⟩
    obtain ⟨E, hEl, hEc⟩ := exists_list hE
    refine ⟨some a, len, cap, E, hcs, Rd.of_cells (by decide) (by rw [encE_len, hEl]) hl2 fun j hj => ?_⟩
    have hd : j / 2 < len := by omega
    obtain ⟨g1, g2⟩ := encE_get E (j / 2) (by omega)
    obtain ⟨h1, h2⟩ := hEc (j / 2) hd
    have hm2 : j = j / 2 * 2 ∨ j = j / 2 * 2 + 1 := by omega
    rcases hm2 with e | e
    · rw [e, g1]; exact h1
    · rw [e, g2]; exact h2
theorem open_texts {t : TypeId} {fuel : Nat} {v : Value} {x : DataW H × List MemPlace} (ht : Tryz.prog.underlying t = some (.slice 9)) (h : DataW.trod enc Tryz.prog w base spare held fuel t [v] = some x) :
    ∃ p n c l, v = .slice p n c ∧ Rd w 1 p n (encS l) := by
  rcases open_slice ht h with h0 | ⟨a, len, cap, m, n, D, Pl, hcs, hb, hl, hm, hmm, hx, hi⟩
  · obtain ⟨h0, _⟩ := h0; simp at h0; exact ⟨none, 0, 0, [], h0, Rd.nil _ _ _⟩
  · simp at hcs
    have hl2 : len ≤ 9223372036854775807 := by unfold maxLen at hm; omega
    have hc1 : Tryz.prog.cellsOf 9 = 1 := by kernel_rfl
    rw [hc1] at hi
    have hS : ∀ i, i < len → ∃ s : ByteArray, w.cell? (a.add i) = some (.string s) := by
      intro i hil
      obtain ⟨cs', hc, ht'⟩ := hi i (by rw [hmm]; split <;> omega)
      obtain ⟨s, e1, _⟩ := DataW.trod_string Tryz.underlying9 ht'
      obtain ⟨_, hcl, hat⟩ := World.cells?_some hc
      have := hat 0 (by decide)
      rw [Go.Deep.add_add, Nat.mul_one, Nat.add_zero, e1] at this
      exact ⟨s, this⟩
    obtain ⟨l, hll, hlc⟩ := exists_list hS
    refine ⟨some a, len, cap, l, hcs, Rd.of_cells (by decide) (by rw [encS_len, hll, Nat.mul_one]) hl2 fun j hj => ?_⟩
    rw [encS_get l j (by omega)]
    exact hlc j (by omega)
theorem open_rows {t : TypeId} {fuel : Nat} {v : Value} {x : DataW H × List MemPlace} (ht : Tryz.prog.underlying t = some (.slice 114)) (h : DataW.trod enc Tryz.prog w base spare held fuel t [v] = some x) :
    ∃ p n c hs W, v = .slice p n c ∧ RdW w p n hs W := by
  rcases open_slice ht h with h0 | ⟨a, len, cap, m, n, D, Pl, hcs, hb, hl, hm, hmm, hx, hi⟩
  · obtain ⟨h0, _⟩ := h0; simp at h0; exact ⟨none, 0, 0, [], [], h0, rfl, Rd.nil _ _ _, fun j hj => by omega⟩
  · simp at hcs
    have hl2 : len ≤ 9223372036854775807 := by unfold maxLen at hm; omega
    have hc1 : Tryz.prog.cellsOf 114 = 1 := by kernel_rfl
    rw [hc1] at hi
    have hS : ∀ i, i < len → ∃ q : Hd × List ByteArray, w.cell? (a.add i) = some (.slice q.1.p q.1.n q.1.c) ∧ Rd w 1 q.1.p q.1.n (encS q.2) := by
      intro i hil
      obtain ⟨cs', hc, ht'⟩ := hi i (by rw [hmm]; split <;> omega)
      obtain ⟨_, hcl, hat⟩ := World.cells?_some hc
      match cs', hcl with
      | [u], _ =>
        obtain ⟨p, n', c', l, e1, hr⟩ := open_texts Tryz.underlying114 ht'
        have := hat 0 (by decide)
        rw [Go.Deep.add_add, Nat.mul_one, Nat.add_zero, e1] at this
        exact ⟨(⟨p, n', c'⟩, l), this, hr⟩
    obtain ⟨l, hll, hlc⟩ := exists_list hS
    have hm : ∀ i, i < len → nth (l.map (·.1)) i = (nth l i).1 ∧ nth (l.map (·.2)) i = (nth l i).2 := fun i hil => by
      rw [nth_eq (l := l.map (·.1)) (by rw [List.length_map]; omega), nth_eq (l := l.map (·.2)) (by rw [List.length_map]; omega), nth_eq (l := l) (by omega)]; simp
    refine ⟨some a, len, cap, l.map (·.1), l.map (·.2), hcs, by simp, Rd.of_cells (by decide) (by rw [encH_len, List.length_map, hll, Nat.mul_one]) hl2 fun j hj => ?_, fun j hj => ?_⟩
    · rw [encH_get _ j (by simp; omega), (hm j (by omega)).1]
      exact (hlc j (by omega)).1
    · rw [(hm j hj).1, (hm j hj).2]
      exact (hlc j hj).2
set_option maxRecDepth 100000 in
/-- a graph by value -/
theorem open_graph {r : Reach} {b0 : Nat} {v : Value} {d : DataW H} {p : List MemPlace} (hv : Value.okWide Tryz.prog w r b0 77 v) (h : DataW.Trod enc Tryz.prog w base spare held 77 v d p) :
    ∃ N pe ne ce pw nw cw E hs W, v = .agg #[.int .i64 N, .slice pe ne ce, .slice pw nw cw] ∧ Rd w 2 pe ne (encE E) ∧ RdW w pw nw hs W := by
  obtain ⟨v0, v1, v2, y0, y1, y2, n, rfl, _, _, t0, t1, t2⟩ := open_agg3 Tryz.underlying77 (by kernel_rfl) (by kernel_rfl) hv h
  obtain ⟨N, e0, _⟩ := DataW.trod_int Tryz.underlying3 t0
  simp at e0
  subst e0
  obtain ⟨pe, ne, ce, E, rfl, hE⟩ := open_edges Tryz.underlying48 t1
  obtain ⟨pw, nw, cw, hs, W, rfl, hW⟩ := open_rows Tryz.underlying75 t2
  exact ⟨N, pe, ne, ce, pw, nw, cw, E, hs, W, rfl, hE, hW⟩
end
end Go.Proofs.YtgnjffnkmdodeaaGreat
/- The last step of a law's row: the result is true, the arguments read as they did, where the call only made memory. -/
namespace Go.Proofs.YtgnjffnkmdodeaaGreat
open Go Go.RowKit Go.WideShapes Go.ChangeShapes
theorem own : ownKnob Tryz.prog.godebug = none := by kernel_rfl
theorem laidOut : laidOutB Tryz.prog = true := by kernel_rfl
set_option maxRecDepth 100000 in
/-- true comes back, the arguments stay: what is left to show is their reading -/
theorem law_post {H : Type} {enc : TypeId × Value → H} {f : Func} {s : ChangeSpec} {apart fresh handsOn again : Bool} {W W' : World} {args : Array Value} {ds : List (DataW H)} {before : List MemPlace}
    (hW : DataW.Whole enc Tryz.prog f.params.toList s.vars apart W args.toList ds [] before) (ht : f.resultTypes = #[4]) (hvars : s.vars = [])
    (hfn : s.fn H (ds ++ []) = { results := [.lit (.bool true)], args := ds })
    (hargs : ∀ sp : Nat → Bool, (∀ p ∈ before, sp p.block = true) → DataW.TrodAll enc Tryz.prog W' 0 sp true f.params.toList args.toList ds before)
    (hb : Below W.heap.size W W') : s.post enc Tryz.prog f apart fresh handsOn again W args (.bool true) W' := by
  have lits : ∀ (b : Nat) (sp : Nat → Bool) (hd : Bool), DataW.TrodAll enc Tryz.prog W' b sp hd f.resultTypes.toList ((Value.bool true).resultList f.resultTypes.size) (s.fn H (ds ++ [])).results [] := by
    intro b sp hd
    rw [hfn, ht]
    exact trodAll_mk1 (shut_bool Tryz.underlying4 true)
  have hold : ∀ sp : Nat → Bool, (∀ p ∈ before, sp p.block = true) → DataW.TrodAll enc Tryz.prog W' 0 sp true f.params.toList args.toList (s.fn H (ds ++ [])).args before := by
    intro sp hsp
    rw [hfn]; exact hargs sp hsp
  have hv : ∀ sp : Nat → Bool, DataW.TrodVars enc Tryz.prog W' sp s.vars (s.fn H (ds ++ [])).vars [] := by
    intro sp; rw [hfn, hvars]; rfl
  have hin : ∀ p ∈ before, p.block < W.heap.size := fun p hp => hW.lt p hp
  have same : before = before ++ [] := by simp
  refine ⟨ds, [], before, [], before, [], hW, lits _ _ _, hold _ (fun p hp => by simpa using hin p hp), hv _, World.keptBut_mono (fun p hp => ⟨hp, .inr (by simpa using hp)⟩) (hb.frame (· ∈ before)), fun _ => ?_⟩
  have hW2 := hW
  obtain ⟨_, _, _, _, _, hz, hn⟩ := hW2
  refine ⟨ok_one (by rw [ht]) rfl (okWide_bool_mk Tryz.underlying4 _), _, _, ([] ++ before) ++ [], ⟨[] ++ before, [], trodAll_append (hold _ (fun _ _ => rfl)) (lits _ _ _), hv _, rfl, ?_, ?_⟩, ?_⟩
  · intro b off hp
    have hp2 : MemPlace.cell b off ∈ before := by simpa using hp
    rw [hb.frozen (hin _ hp2)]
    exact hz b off hp2
  · intro ha
    simpa using hn ha
  · intro p hp _
    simpa using hp
/-- an argument's reading, carried behind the call -/
theorem stays {H : Type} {enc : TypeId × Value → H} {W W' : World} {t : TypeId} {v : Value} {d : DataW H} {ps : List MemPlace} (hr : Tryz.prog.readableRec t = true) (hrow : t < Tryz.prog.types.size) (h : DataW.Trod enc Tryz.prog W 0 (fun _ => true) true t v d ps)
    (hb : Below W.heap.size W W') (hlt : ∀ x ∈ ps, x.block < W.heap.size) {sp : Nat → Bool} (hsp : ∀ x ∈ ps, sp x.block = true) : DataW.Trod enc Tryz.prog W' 0 sp true t v d ps :=
  WideElems.Trod_stays laidOut hr hrow h (fun x hx => hb.same (hlt x hx)) hsp
/-- all readings, one by one -/
theorem trodAll_turn {H : Type} {enc : TypeId × Value → H} {P : Program} {W W' : World} {sp sp' : Nat → Bool} {hd : Bool} (ts : List TypeId) : ∀ {vs : List Value} {ds : List (DataW H)} {ps : List MemPlace}, DataW.TrodAll enc P W 0 sp hd ts vs ds ps →
    (∀ t ∈ ts, ∀ v d p, (∀ x ∈ p, x ∈ ps) → DataW.Trod enc P W 0 sp hd t v d p → DataW.Trod enc P W' 0 sp' hd t v d p) → DataW.TrodAll enc P W' 0 sp' hd ts vs ds ps := by
  induction ts with
  | nil =>
    intro vs ds ps h _
    obtain ⟨rfl, rfl, rfl⟩ := trodAll_nil h
    exact trodAll_mk0
  | cons t ts ih =>
    intro vs ds ps h hk
    obtain ⟨v, vs', d, ds', p, q, rfl, rfl, rfl, h1, h2⟩ := trodAll_cons h
    exact trodAll_cons_mk (hk t (by simp) v d p (fun x hx => by simp [hx]) h1) (ih h2 fun t' ht' v' d' p' hp' h' => hk t' (by simp [ht']) v' d' p' (fun x hx => by simp [hp' x hx]) h')
/-- all arguments' reading, carried behind the call -/
theorem stays_all {H : Type} {enc : TypeId × Value → H} {W W' : World} {ts : List TypeId} {vs : List Value} {ds : List (DataW H)} {ps : List MemPlace} (hr : ts.all (fun t => Tryz.prog.readableRec t && decide (t < Tryz.prog.types.size)) = true)
    (h : DataW.TrodAll enc Tryz.prog W 0 (fun _ => true) true ts vs ds ps) (hb : Below W.heap.size W W') (hlt : ∀ x ∈ ps, x.block < W.heap.size) {sp : Nat → Bool} (hsp : ∀ x ∈ ps, sp x.block = true) : DataW.TrodAll enc Tryz.prog W' 0 sp true ts vs ds ps :=
  trodAll_turn ts h fun t ht v d p hp h1 => by
    have h2 := List.all_eq_true.1 hr t ht
    rw [Bool.and_eq_true, decide_eq_true_eq] at h2
    exact stays h2.1 h2.2 h1 hb (fun x hx => hlt x (hp x hx)) (fun x hx => hsp x (hp x hx))
end Go.Proofs.YtgnjffnkmdodeaaGreat
/- Arguments that are rows of numbers, of texts, of postings: what they read. -/
namespace Go.Proofs.YtgnjffnkmdodeaaGreat
open Go Go.RowKit Go.ChangeShapes Go.WideShapes Go.ChangeAt Go.Deep Go.Joins
section
variable {H : Type} {enc : TypeId × Value → H} {w : World} {base : Nat} {spare : Nat → Bool} {held : Bool}
theorem trod_ints {t : TypeId} {fuel : Nat} {v : Value} {x : DataW H × List MemPlace} (ht : Tryz.prog.underlying t = some (.slice 3)) (h : DataW.trod enc Tryz.prog w base spare held fuel t [v] = some x) :
    ∃ p n c l, v = .slice p n c ∧ n ≤ c ∧ Rd w 1 p n (encI l) ∧ ∀ x ∈ l, I64 x := by
  rcases open_slice ht h with h0 | ⟨a, len, cap, m, n, D, Pl, hcs, hb, hl, hm, hmm, hx, hi⟩
  · obtain ⟨h0, _⟩ := h0; simp at h0; exact ⟨none, 0, 0, [], h0, Nat.le_refl _, Rd.nil _ _ _, fun x hx => nomatch hx⟩
  · simp at hcs
    have hl2 : len ≤ 9223372036854775807 := by unfold maxLen at hm; omega
    have hc1 : Tryz.prog.cellsOf 3 = 1 := by kernel_rfl
    rw [hc1] at hi
    have hS : ∀ i, i < len → ∃ s : Int, w.cell? (a.add i) = some (.int .i64 s) ∧ I64 s := by
      intro i hil
      obtain ⟨cs', hc, ht'⟩ := hi i (by rw [hmm]; split <;> omega)
      obtain ⟨s, e1, _, hw⟩ := DataW.trod_int Tryz.underlying3 ht'
      obtain ⟨_, hcl, hat⟩ := World.cells?_some hc
      have := hat 0 (by decide)
      rw [Go.Deep.add_add, Nat.mul_one, Nat.add_zero, e1] at this
      exact ⟨s, this, hw⟩
    obtain ⟨l, hll, hlc⟩ := exists_list hS
    refine ⟨some a, len, cap, l, hcs, hl, Rd.of_cells (by decide) (by rw [encI_len, hll, Nat.mul_one]) hl2 fun j hj => ?_, fun x hx => ?_⟩
    · rw [encI_get l j (by omega)]
      exact (hlc j (by omega)).1
    · obtain ⟨j, hj, rfl⟩ := List.mem_iff_getElem.1 hx
      rw [← nth_eq hj]
      exact (hlc j (by omega)).2
theorem trod_texts {t : TypeId} {fuel : Nat} {v : Value} {x : DataW H × List MemPlace} (ht : Tryz.prog.underlying t = some (.slice 9)) (h : DataW.trod enc Tryz.prog w base spare held fuel t [v] = some x) :
    ∃ p n c l, v = .slice p n c ∧ n ≤ c ∧ Rd w 1 p n (encS l) := by
  obtain ⟨p, n, c, l, rfl, hr⟩ := open_texts ht h
  refine ⟨p, n, c, l, rfl, ?_, hr⟩
  rcases open_slice ht h with h0 | ⟨a, len, cap, m, n', D, Pl, hcs, hb, hl, _⟩
  · obtain ⟨h0, _⟩ := h0; simp at h0; omega
  · simp at hcs; omega
set_option maxRecDepth 100000 in
theorem open_top {t e : TypeId} {r : Reach} {b0 : Nat} {v : Value} {d : DataW H} {p : List MemPlace} (ht : Tryz.prog.underlying t = some (.slice e)) (hv : Value.okWide Tryz.prog w r b0 t v) (h : DataW.Trod enc Tryz.prog w base spare held t v d p) :
    ∃ fuel, DataW.trod enc Tryz.prog w base spare held fuel t [v] = some (d, p) := by
  obtain ⟨a, n, c, rfl⟩ := okWide_slice ht hv
  exact h
set_option maxRecDepth 100000 in
theorem open_introw {r : Reach} {b0 : Nat} {v : Value} {d : DataW H} {p : List MemPlace} (hv : Value.okWide Tryz.prog w r b0 22 v) (h : DataW.Trod enc Tryz.prog w base spare held 22 v d p) :
    ∃ p n c l, v = .slice p n c ∧ n ≤ c ∧ Rd w 1 p n (encI l) ∧ ∀ x ∈ l, I64 x := by
  obtain ⟨f, hf⟩ := open_top Tryz.underlying22 hv h
  exact trod_ints Tryz.underlying22 hf
set_option maxRecDepth 100000 in
theorem open_textrow {r : Reach} {b0 : Nat} {v : Value} {d : DataW H} {p : List MemPlace} (hv : Value.okWide Tryz.prog w r b0 114 v) (h : DataW.Trod enc Tryz.prog w base spare held 114 v d p) :
    ∃ p n c l, v = .slice p n c ∧ n ≤ c ∧ Rd w 1 p n (encS l) := by
  obtain ⟨f, hf⟩ := open_top Tryz.underlying114 hv h
  exact trod_texts Tryz.underlying114 hf
end
end Go.Proofs.YtgnjffnkmdodeaaGreat
/- An argument that is rows, opened. -/
namespace Go.Proofs.YtgnjffnkmdodeaaGreat
open Go Go.RowKit Go.ChangeShapes Go.WideShapes Go.ChangeAt Go.Deep Go.Joins
section
variable {H : Type} {enc : TypeId × Value → H} {w : World} {base : Nat} {spare : Nat → Bool} {held : Bool}
set_option maxRecDepth 100000 in
theorem open_rowsarg {r : Reach} {b0 : Nat} {v : Value} {d : DataW H} {p : List MemPlace} (hv : Value.okWide Tryz.prog w r b0 24 v) (h : DataW.Trod enc Tryz.prog w base spare held 24 v d p) :
    ∃ po no co O pt nt ct T pr nr cr R pv nv cv V, v = .agg #[.slice po no co, .slice pt nt ct, .slice pr nr cr, .slice pv nv cv] ∧ Rd w 1 po no (encI O) ∧ Rd w 1 pt nt (encI T) ∧ Rd w 1 pr nr (encI R) ∧ Rd w 1 pv nv (encI V) ∧ no ≤ co ∧ nt ≤ ct ∧ nr ≤ cr ∧ nv ≤ cv := by
  obtain ⟨v0, v1, v2, v3, y0, y1, y2, y3, n, rfl, _, _, t0, t1, t2, t3⟩ := open_agg4 Tryz.underlying24 (by kernel_rfl) (by kernel_rfl) hv h
  obtain ⟨po, no, co, O, rfl, c0, h0, _⟩ := trod_ints Tryz.underlying22 t0
  obtain ⟨pt, nt, ct, T, rfl, c1, h1, _⟩ := trod_ints Tryz.underlying22 t1
  obtain ⟨pr, nr, cr, R, rfl, c2, h2, _⟩ := trod_ints Tryz.underlying22 t2
  obtain ⟨pv, nv, cv, V, rfl, c3, h3, _⟩ := trod_ints Tryz.underlying22 t3
  exact ⟨po, no, co, O, pt, nt, ct, T, pr, nr, cr, R, pv, nv, cv, V, rfl, h0, h1, h2, h3, c0, c1, c2, c3⟩
end
end Go.Proofs.YtgnjffnkmdodeaaGreat
