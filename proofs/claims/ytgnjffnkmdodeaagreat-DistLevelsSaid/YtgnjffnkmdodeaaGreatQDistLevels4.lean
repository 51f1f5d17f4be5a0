/- Texts of this claim, one behind the other: Edg4r, OwnSm, LTell4, LHalf8, PlainT, Lv7a, RngA, Lv7b, Lv7c, Rep7, Lv7d, LLevels8, Open, Post, Open5, Open4. -/
import Derived.RangeFuncNested
import Derived.Shelf.Bits.Mul64
import Derived.Laws.CopyOwn
import Derived.StillTailTactics
import Derived.Deep.RegionWith
import Derived.Deep.LoopGhost
import Derived.ProofKit
import Derived.Deep.Slices
import Derived.Deep.Fields
import Derived.ChangeSame
import Derived.Lib.SmallJoins
import Derived.Below
import Derived.Carry
import Derived.OpenShut
import Derived.Test.YtgnjffnkmdodeaaGreatProg
import Derived.Test.YtgnjffnkmdodeaaGreatQDistLevels3
/- The reference's Edges and Own of rows. -/
namespace Go.Proofs.YtgnjffnkmdodeaaGreat
open Go Go.RowKit
def OwnQ (b : Nat) (no nt nr nv : Nat) (O T R V : List Int) (i : Nat) (v : Value) (W : World) : Prop :=
  match i with
  | 2 => ∃ q d, v = .slice q no d ∧ W.ownsRow b 3 1 (.slice q no d) no (encI O)
  | 5 => ∃ q d, v = .slice q nt d ∧ W.ownsRow b 3 1 (.slice q nt d) nt (encI T)
  | 8 => ∃ q d, v = .slice q nr d ∧ W.ownsRow b 3 1 (.slice q nr d) nr (encI R)
  | 11 => ∃ q d, v = .slice q nv d ∧ W.ownsRow b 3 1 (.slice q nv d) nv (encI V)
  | _ => True
theorem OwnQ_mono {b no nt nr nv : Nat} {O T R V : List Int} : ∀ i v W W', Ext W W' → OwnQ b no nt nr nv O T R V i v W → OwnQ b no nt nr nv O T R V i v W' := by
  intro i v W W' he h
  unfold OwnQ at *
  split at h <;> first | trivial | (obtain ⟨q, c, h1, h2⟩ := h; exact ⟨q, c, h1, he.own h2⟩)
set_option maxRecDepth 100000 in
set_option maxHeartbeats 4000000 in
theorem Own04 (po : Option Addr) (no co : Nat) (O : List Int) (pt : Option Addr) (nt ct : Nat) (T : List Int) (pr : Option Addr) (nr cr : Nat) (R : List Int) (pv : Option Addr) (nv cv : Nat) (V : List Int) (w : World) (hO : Rd w 1 po no (encI O)) (hT : Rd w 1 pt nt (encI T)) (hR : Rd w 1 pr nr (encI R)) (hV : Rd w 1 pv nv (encI V)) (b1 : no ≤ 100000) (b2 : nt ≤ 100000) (b3 : nr ≤ 100000) (b4 : nv ≤ 100000) :
    Calls Tryz.prog 11 #[.agg #[.slice po no co, .slice pt nt ct, .slice pr nr cr, .slice pv nv cv]] w fun e w' => ∃ qo do' qt dt qr dr qv dv, e = .returned (.agg #[.slice qo no do', .slice qt nt dt, .slice qr nr dr, .slice qv nv dv]) ∧ R4 w' qo no qt nt qr nr qv nv O T R V ∧ nt ≤ dt ∧ nv ≤ dv ∧ Ext w w' := by
  have HO := Lib.hid (fun W1 (h : Ext w W1) => OwnI01 po no co O W1 (hO.ext h) (by omega))
  have HT := Lib.hid (fun W1 (h : Ext w W1) => OwnI01 pt nt ct T W1 (hT.ext h) (by omega))
  have HR := Lib.hid (fun W1 (h : Ext w W1) => OwnI01 pr nr cr R W1 (hR.ext h) (by omega))
  have HV := Lib.hid (fun W1 (h : Ext w W1) => OwnI01 pv nv cv V W1 (hV.ext h) (by omega))
  have D1 := Lib.hid b1
  have D2 := Lib.hid b2
  have D3 := Lib.hid b3
  have D4 := Lib.hid b4
  obtain ⟨X, hX⟩ : ∃ X, X = (w.alloc (.cells #[.slice po no co, .slice pt nt ct, .slice pr nr cr, .slice pv nv cv] 24)).alloc (.cells #[.slice none 0 0, .slice none 0 0, .slice none 0 0, .slice none 0 0] 24) := ⟨_, rfl⟩
  have S0 := Lib.hid (hX ▸ (((Sep.start w).al #[.slice po no co, .slice pt nt ct, .slice pr nr cr, .slice pv nv cv] 24 w.heap.size rfl).al #[.slice none 0 0, .slice none 0 0, .slice none 0 0, .slice none 0 0] 24 (w.heap.size + 1) (by simp)) : Sep w X _)
  clear hO hT hR hV b1 b2 b3 b4
  go_enter Tryz.func11, Tryz.ntmps11
  go_wp2
  rw [← hX]
  clear hX
  have az := (S0.out.blk 1 rfl).lt; have a0 := (S0.out.blk 1 rfl).cell 0; have a1 := (S0.out.blk 1 rfl).cell 1; have a2 := (S0.out.blk 1 rfl).cell 2; have a3 := (S0.out.blk 1 rfl).cell 3
  have x0 := fun x : ExtOf X => x.ext.cell a0
  have x1 := fun x : ExtOf X => x.ext.cell a1
  have x2 := fun x : ExtOf X => x.ext.cell a2
  have x3 := fun x : ExtOf X => x.ext.cell a3
  refine wp_region_mix [true, true, false, true, true, false, true, true, false, true, true, false] (OwnQ X.heap.size no nt nr nv O T R V) (by kernel_rfl) (by kernel_rfl) (by kernel_rfl) OwnQ_mono ?_
  simp only [nfM]
  repeat (go_big_quiet_step ((fail)))
  refine wpQuiet_nil ⟨⟨fun vs W1 hE hd => ?_, fun vs W1 hE hd => ?_, fun vs W1 hE hd => ?_, fun vs W1 hE hd => ?_, trivial⟩, fun vs W1 hE hkn => ?_⟩
  · simp [putM, execOp, go_sem]
    exact (HO.out _ (Ext.trans S0.out.ext hE)).mono fun e w' ⟨q, d, h1, S⟩ => ⟨_, h1, ⟨q, d, rfl, own_base (S.own 0 rfl) hE.size⟩, S.ext⟩
  · simp [putM, execOp, go_sem]
    exact (HT.out _ (Ext.trans S0.out.ext hE)).mono fun e w' ⟨q, d, h1, S⟩ => ⟨_, h1, ⟨q, d, rfl, own_base (S.own 0 rfl) hE.size⟩, S.ext⟩
  · simp [putM, execOp, go_sem]
    exact (HR.out _ (Ext.trans S0.out.ext hE)).mono fun e w' ⟨q, d, h1, S⟩ => ⟨_, h1, ⟨q, d, rfl, own_base (S.own 0 rfl) hE.size⟩, S.ext⟩
  · simp [putM, execOp, go_sem]
    exact (HV.out _ (Ext.trans S0.out.ext hE)).mono fun e w' ⟨q, d, h1, S⟩ => ⟨_, h1, ⟨q, d, rfl, own_base (S.own 0 rfl) hE.size⟩, S.ext⟩
  obtain ⟨⟨qo, do', k1, r1⟩, ⟨qt, dt, k2, r2⟩, ⟨qr, dr, k3, r3⟩, ⟨qv, dv, k4, r4⟩, _⟩ := hkn
  have c2 := own_cap r2
  have c4 := own_cap r4
  have SY := Lib.hid (S0.out.call hE)
  have Y1 := Lib.hid (S0.out.fresh hE r1 (Nat.le_refl _))
  have Y2 := Lib.hid (S0.out.fresh hE r2 (Nat.le_refl _))
  have Y3 := Lib.hid (S0.out.fresh hE r3 (Nat.le_refl _))
  have Y4 := Lib.hid (S0.out.fresh hE r4 (Nat.le_refl _))
  simp only [putM, k1, k2, k3, k4, List.length_cons, List.length_nil, Nat.zero_add, Nat.reduceAdd, List.drop_succ_cons, List.drop_zero]
  clear x0 x1 x2 x3 k1 k2 k3 k4 hE r1 r2 r3 r4 a0 a1 a2 a3 az
  have uz := (SY.out.blk 0 rfl).lt; have u0 := (SY.out.blk 0 rfl).cell 0; have u1 := (SY.out.blk 0 rfl).cell 1; have u2 := (SY.out.blk 0 rfl).cell 2; have u3 := (SY.out.blk 0 rfl).cell 3
  have uf0 := (SY.out.blk 0 rfl).frozen 0
  have uf1 := (SY.out.blk 0 rfl).frozen 1
  have uf2 := (SY.out.blk 0 rfl).frozen 2
  have uf3 := (SY.out.blk 0 rfl).frozen 3
  go_wp2
  have S7 := (((SY.out.set 0 rfl 0 (.slice qo no do')).set 0 rfl 1 (.slice qt nt dt)).set 0 rfl 2 (.slice qr nr dr)).set 0 rfl 3 (.slice qv nv dv)
  have b0 := (S7.blk 0 rfl).cell 0
  have b1 := (S7.blk 0 rfl).cell 1
  have b2 := (S7.blk 0 rfl).cell 2
  have b3 := (S7.blk 0 rfl).cell 3
  refine bodyPost_ret (v := .agg #[.slice qo no do', .slice qt nt dt, .slice qr nr dr, .slice qv nv dv]) (by simp [results, Tryz.results11, go_sem, b0, b1, b2, b3, Tryz.sizeOf24, Tryz.isAgg24]) rfl ⟨qo, do', qt, dt, qr, dr, qv, dv, rfl, ?_, c2, c4, S7.ext⟩
  exact ⟨((((Y1.out.set 1 rfl 0 (.slice qo no do')).set 1 rfl 1 (.slice qt nt dt)).set 1 rfl 2 (.slice qr nr dr)).set 1 rfl 3 (.slice qv nv dv)).rd 0 rfl (by have := D1.out; omega), ((((Y2.out.set 1 rfl 0 (.slice qo no do')).set 1 rfl 1 (.slice qt nt dt)).set 1 rfl 2 (.slice qr nr dr)).set 1 rfl 3 (.slice qv nv dv)).rd 0 rfl (by have := D2.out; omega), ((((Y3.out.set 1 rfl 0 (.slice qo no do')).set 1 rfl 1 (.slice qt nt dt)).set 1 rfl 2 (.slice qr nr dr)).set 1 rfl 3 (.slice qv nv dv)).rd 0 rfl (by have := D3.out; omega), ((((Y4.out.set 1 rfl 0 (.slice qo no do')).set 1 rfl 1 (.slice qt nt dt)).set 1 rfl 2 (.slice qr nr dr)).set 1 rfl 3 (.slice qv nv dv)).rd 0 rfl (by have := D4.out; omega)⟩
set_option maxRecDepth 100000 in
set_option maxHeartbeats 8000000 in
theorem Edges04_yes (po : Option Addr) (no co : Nat) (O : List Int) (pt : Option Addr) (nt ct : Nat) (T : List Int) (pr : Option Addr) (nr cr : Nat) (R : List Int) (pv : Option Addr) (nv cv : Nat) (V : List Int) (w : World) (hO : Rd w 1 po no (encI O)) (hT : Rd w 1 pt nt (encI T)) (hR : Rd w 1 pr nr (encI R)) (hV : Rd w 1 pv nv (encI V)) (hct : nt ≤ ct) (hcv : nv ≤ cv) (hck : checkR O T R V = true) :
    Calls Tryz.prog 80 #[.agg #[.slice po no co, .slice pt nt ct, .slice pr nr cr, .slice pv nv cv]] w fun e w' => ∃ q c, e = .returned (.tuple #[.slice q (edgL true O T).length c, .int .i64 (edgC true)]) ∧ Sep w w' [.own 53 2 q (edgL true O T).length c (encE (edgL true O T))] := by
  obtain ⟨i0, hi0, hz0, hz1, hz2⟩ := info_parts inf34
  have S0 := Lib.hid ((Sep.start w).al #[.slice po no co, .slice pt nt ct, .slice pr nr cr, .slice pv nv cv] 24 w.heap.size rfl)
  have HC := Lib.hid (fun W1 (h : Ext w W1) => Check04 po no co O pt nt ct T pr nr cr R pv nv cv V W1 (hO.ext h) (hT.ext h) (hR.ext h) (hV.ext h) hct hcv)
  rw [hck] at HC
  have h1 := (checkR_half hck).2.2.1
  have r := offB_parts (halfB_off h1)
  have HOK := offOk_of (halfB_off h1)
  have l1 := hO.nI
  have l2 := hT.nI
  have n1 := hO.small
  have L1 := Lib.hid l1
  have hpk : Hid (∀ k, k < O.length - 1 → ∀ j, (pairsK O T k ++ (rowX O T k).take j).length ≤ 2000) := fun k hk j => by
    have h := (pairs_prefix (O := O) (T := T) (j := j) hk).length_le
    unfold pairs at h
    rw [pairs_len HOK r.2.2.2.1 (O.length - 1) (by omega), r.2.2.2.2.1] at h
    omega
  have HR1 := Lib.hid (fun W1 (h : Ext w W1) k (hk : k + 1 < O.length) => row04 po no co O pt nt ct T k W1 (hO.ext h) (hT.ext h) hct HOK hk (by omega))
  have no200 : no ≤ 201 := by omega
  have rl2000 : ∀ k, (rowL O T k).length ≤ 2000 := fun k => by unfold rowL; rw [List.length_take, List.length_drop]; omega
  have RL := Lib.hid rl2000
  clear hO hT hR hV hck h1 r HOK l1 l2 rl2000
  show Calls _ _ _ _ fun e w' => ∃ q c, e = .returned (.tuple #[.slice q (pairs O T).length c, .int .i64 0]) ∧ Sep w w' [.own 53 2 q (pairs O T).length c (encE (pairs O T))]
  go_enter Tryz.func80, Tryz.ntmps80
  go_wp2_with (go_at_call 47; go_must (refine (HC.out _ S0.out.ext).mono ?_; rintro e w1 ⟨rfl, hb⟩; have S1 := Lib.hid (S0.out.call hb); have az := (S1.out.blk 0 rfl).lt; have a0 := (S1.out.blk 0 rfl).cell 0; have a1 := (S1.out.blk 0 rfl).cell 1; have a2 := (S1.out.blk 0 rfl).cell 2; have a3 := (S1.out.blk 0 rfl).cell 3; clear hb))
  go_loopw [4, 5, 6, 7] (fun out v _ _ wr => ∃ (k : Nat) (q : Option Addr) (c : Nat), k ≤ no - 1 ∧ v = .int .i64 k ∧ out = .slice q (pairsK O T k).length c ∧ Sep w wr [.own 53 2 q (pairsK O T k).length c (encE (pairsK O T k)), .blk w.heap.size 24 #[.slice po no co, .slice pt nt ct, .slice pr nr cr, .slice pv nv cv]]) (fun _ v _ _ _ => no - 1 - (intOf v).toNat)
  case atStart => exact ⟨0, none, 0, Nat.zero_le _, rfl, rfl, S1.out.nilrow _ _⟩
  case round =>
    clear S0 S1 a0 a1 a2 a3 az
    obtain ⟨k, q, c, hk, rfl, rfl, S⟩ := hrel
    have az := (S.blk 1 rfl).lt; have a0 := (S.blk 1 rfl).cell 0; have a1 := (S.blk 1 rfl).cell 1; have a2 := (S.blk 1 rfl).cell 2; have a3 := (S.blk 1 rfl).cell 3
    by_cases hlt : k < no - 1
    · have hkO : k + 1 < O.length := by have := L1.out; omega
      have t1 : (k:Int) + 1 < no := by omega
      have t0 : (0:Int) ≤ k := by omega
      have HRk := Lib.hid (fun W1 (h : Ext w W1) => HR1.out W1 h k hkO)
      have rlk := RL.out k
      have hpl := Lib.hid (hpk.out k (by omega))
      have hst := Lib.hid (fun j (hj : j < (rowL O T k).length) => rowX_take (O := O) (T := T) hj)
      have hend : Hid ((rowX O T k).take (rowL O T k).length = rowX O T k) := by unfold Hid rowX; rw [List.take_of_length_le (by simp)]
      have hps := Lib.hid (pairsK_step O T k)
      generalize rowL O T k = l at *
      generalize rowX O T k = xs at *
      generalize pairsK O T k = ps at *
      have SH := Lib.hid S; clear S
      go_wp2_with (go_at_call 65; go_must (refine (HRk.out _ SH.out.ext).mono ?_; rintro e w3 ⟨q2, c2, rfl, Z⟩; have P1 := Lib.hid (SH.out.comp Z); clear Z))
      go_loopw [4, 7] (fun out i wr => ∃ (j : Nat) (q : Option Addr) (c : Nat), j ≤ l.length ∧ i = .int .i64 j ∧ out = .slice q (ps ++ xs.take j).length c ∧ Sep w wr [.own 3 1 q2 l.length c2 (encI l), .own 53 2 q (ps ++ xs.take j).length c (encE (ps ++ xs.take j)), .blk w.heap.size 24 #[.slice po no co, .slice pt nt ct, .slice pr nr cr, .slice pv nv cv]]) (fun _ i _ => l.length - (intOf i).toNat)
      case atStart => exact ⟨0, q, c, Nat.zero_le _, rfl, by simp, by simpa using P1.out⟩
      case round =>
        clear SH P1 a0 a1 a2 a3 az
        obtain ⟨j, q, c, hj, rfl, rfl, S⟩ := hrel
        have pq := (S.rd 0 rfl (by omega)).ptr
        by_cases hlj : j < l.length
        · have g1 := (S.rd 0 rfl (by omega)).cI hlj
          have h0 := hpl.out j
          have hs : Hid (ps ++ xs.take (j + 1) = (ps ++ xs.take j) ++ [((k:Int), nth l j)]) := by unfold Hid; rw [hst.out j hlj, List.append_assoc]
          generalize ps ++ xs.take j = ys at *
          generalize nth l j = x at *
          have t2 : (0:Int) ≤ j := by omega
          have t3 : (j:Int) < l.length := by omega
          have SH := Lib.hid S; clear S
          go_wp2_with (at_builtin; go_must (refine wpList_append_sep rfl _ _ _ rfl 53 i0 _ 2 16 Tryz.underlying48 hi0 hz0 hz1 hz2 rfl (by omega) (SH.out.junk _) 1 q ys.length c _ rfl rfl _ 1 1 _ rfl (Rd.one2 _ _ _ _) (one_encE _) (by omega) (by omega) ?_; intro q' c' w' S' hsz; have S5 := Lib.hid S'; clear S' hsz))
          go_roundw
          case rel => exact ⟨j + 1, q', c', by omega, by go_num, by rw [hs.out, List.length_append]; rfl, by rw [hs.out, List.length_append, encE_append]; exact S5.out⟩
          case measure => simp [intOf]; omega
        · obtain rfl : j = l.length := by omega
          rw [hend.out, ← hps.out] at S
          rw [hend.out, ← hps.out]
          have SH := Lib.hid S; clear S
          go_wp2
          go_roundw
          case rel => exact ⟨k + 1, q, c, by omega, by go_num, rfl, SH.out.pick [1, 2] (by decide) rfl⟩
          case measure => simp [intOf]; omega
    · have hend : pairsK O T k = pairs O T := by
        unfold pairs
        rw [show O.length - 1 = k by have := L1.out; omega]
      rw [hend] at S
      rw [hend]
      have t1 : decide ((k:Int) + 1 < no) = false := by simp; omega
      have SH := Lib.hid S; clear S
      clear hend
      go_wp2
      go_ret2
      exact ⟨q, c, rfl, SH.out.pick [0] (by decide) rfl⟩
theorem Edges04 (po : Option Addr) (no co : Nat) (O : List Int) (pt : Option Addr) (nt ct : Nat) (T : List Int) (pr : Option Addr) (nr cr : Nat) (R : List Int) (pv : Option Addr) (nv cv : Nat) (V : List Int) (w : World) (hO : Rd w 1 po no (encI O)) (hT : Rd w 1 pt nt (encI T)) (hR : Rd w 1 pr nr (encI R)) (hV : Rd w 1 pv nv (encI V)) (hct : nt ≤ ct) (hcv : nv ≤ cv) :
    Calls Tryz.prog 80 #[.agg #[.slice po no co, .slice pt nt ct, .slice pr nr cr, .slice pv nv cv]] w fun e w' => ∃ q c, e = .returned (.tuple #[.slice q (edgL (checkR O T R V) O T).length c, .int .i64 (edgC (checkR O T R V))]) ∧ Sep w w' [.own 53 2 q (edgL (checkR O T R V) O T).length c (encE (edgL (checkR O T R V) O T))] := by
  cases hck : checkR O T R V with
  | true => exact Edges04_yes po no co O pt nt ct T pr nr cr R pv nv cv V w hO hT hR hV hct hcv hck
  | false =>
    have S0 := Lib.hid ((Sep.start w).al #[.slice po no co, .slice pt nt ct, .slice pr nr cr, .slice pv nv cv] 24 w.heap.size rfl)
    have HC := Lib.hid (fun W1 (h : Ext w W1) => Check04 po no co O pt nt ct T pr nr cr R pv nv cv V W1 (hO.ext h) (hT.ext h) (hR.ext h) (hV.ext h) hct hcv)
    rw [hck] at HC
    clear hO hT hR hV hck
    show Calls _ _ _ _ fun e w' => ∃ q c, e = .returned (.tuple #[.slice q 0 c, .int .i64 40]) ∧ Sep w w' [.own 53 2 q 0 c []]
    go_enter Tryz.func80, Tryz.ntmps80
    go_wp2_with (go_at_call 47; go_must (refine (HC.out _ S0.out.ext).mono ?_; rintro e w1 ⟨rfl, hb⟩; have S1 := Lib.hid (S0.out.call hb); have az := (S1.out.blk 0 rfl).lt; have a0 := (S1.out.blk 0 rfl).cell 0; have a1 := (S1.out.blk 0 rfl).cell 1; have a2 := (S1.out.blk 0 rfl).cell 2; have a3 := (S1.out.blk 0 rfl).cell 3; clear hb))
    go_ret2
    exact ⟨none, 0, rfl, ((Sep.start w).call S1.out.ext).nilrow _ _⟩
end Go.Proofs.YtgnjffnkmdodeaaGreat
/- An own row is small. -/
namespace Go.Proofs.YtgnjffnkmdodeaaGreat
open Go Go.RowKit
theorem own_sm {w : World} {base : Nat} {e : TypeId} {size : Nat} {q : Option Addr} {n c : Nat} {xs : List Value} (h : w.ownsRow base e size (.slice q n c) n xs) : n ≤ 9223372036854775807 := by
  rcases h.2 with ⟨_, h2⟩ | ⟨g, cap, cur, h1, _, _, h3, h4, _⟩
  · omega
  · unfold maxLen at h4; omega
theorem Sep.rdx {w0 w : World} {Γ : List Pc} (S : Sep w0 w Γ) (i : Nat) {e : TypeId} {size : Nat} {q : Option Addr} {n c : Nat} {xs : List Value} (h : Γ[i]? = some (.own e size q n c xs)) : Rd w size q n xs := Rd.of_own (S.own i h) (own_sm (S.own i h))
end Go.Proofs.YtgnjffnkmdodeaaGreat
/- The law RowsTell: rows are right, or not, and tell just these of a place, and just these edges. -/
namespace Go.Proofs.YtgnjffnkmdodeaaGreat
open Go Go.RowKit
theorem bigR_bd {O T R V : List Int} (h : bigR O T R V = false) : O.length ≤ 250 ∧ T.length ≤ 2100 ∧ R.length ≤ 250 ∧ V.length ≤ 2100 := by
  unfold bigR at h
  simp only [Bool.or_eq_false_iff, decide_eq_false_iff_not] at h
  omega
end Go.Proofs.YtgnjffnkmdodeaaGreat
/- The law DistHalf: Dist is 2 times Steps, or one less, if there is a walk; Steps is no more than places. -/
namespace Go.Proofs.YtgnjffnkmdodeaaGreat
open Go Go.RowKit
theorem pairC_zero {ck : Bool} {O : List Int} {s t : Int} (h : pairC ck O s t = 0) : ck = true ∧ ∃ n a b : Nat, O.length = n + 1 ∧ s = a ∧ t = b ∧ a < n ∧ b < n := by
  unfold pairC at h
  cases ck with
  | false => rw [if_neg (by simp)] at h; omega
  | true =>
    rw [if_pos rfl] at h
    by_cases h2 : (0 ≤ s ∧ s < (O.length : Int) - 1) ∧ 0 ≤ t ∧ t < (O.length : Int) - 1
    · exact ⟨rfl, O.length - 1, s.toNat, t.toNat, by omega, by omega, by omega, by omega, by omega⟩
    · rw [if_neg h2] at h; omega
theorem pairC_nn {ck : Bool} {O : List Int} {s t : Int} : 0 ≤ pairC ck O s t ∧ pairC ck O s t ≤ 40 := by
  unfold pairC; split
  · split <;> omega
  · omega
end Go.Proofs.YtgnjffnkmdodeaaGreat
/- What the reference's searches come to, in plain words. -/
namespace Go.Proofs.YtgnjffnkmdodeaaGreat
open Go Go.RowKit
section
variable {nx nb : Nat → List Int} {n s t : Nat} (h : Rev nx nb n) (hs : s < n) (ht : t < n)
include h hs ht
theorem first_meet {k : Nat} (h1 : ∀ j : Nat, j < k → meetB n (lev nx n s) (lev nb n t) j = false) (h2 : meetB n (lev nx n s) (lev nb n t) k = true) : stepsN n (lev nx n s) (lev nb n t) = k := by
  obtain ⟨g1, g2⟩ := (meet_lev h hs ht).1 h2
  have h3 := steps_yes h hs ht g1 (n + 1) 0 (by omega) (by omega)
  unfold stepsN
  rw [h3]
  by_cases hk : k = 0
  · subst hk; omega
  · have h4 := h1 (k - 1) (by omega)
    have h5 : ¬ (lev nx n s t ≤ 2 * ((k - 1 : Nat) : Int)) := fun e => by
      rw [(meet_lev h hs ht).2 ⟨g1, e⟩] at h4; cases h4
    omega
theorem no_meet (h1 : ∀ j : Nat, j < n + 1 → meetB n (lev nx n s) (lev nb n t) j = false) : ∀ k : Nat, meetB n (lev nx n s) (lev nb n t) k = false := by
  intro k
  cases e : meetB n (lev nx n s) (lev nb n t) k with
  | false => rfl
  | true =>
    obtain ⟨g1, g2⟩ := (meet_lev h hs ht).1 e
    have g3 := lev_lt (nx := nx) hs ht
    have := h1 n (by omega)
    rw [(meet_lev h hs ht).2 ⟨g1, by omega⟩] at this
    cases this
end
/-- meet, of rows -/
def meetR (A B : List Int) (k : Int) (m : Nat) : Bool := (List.range m).any fun v => decide (0 ≤ nth A v) && decide (nth A v ≤ k) && decide (0 ≤ nth B v) && decide (nth B v ≤ k)
theorem meetR_is (f g : Nat → Int) (n : Nat) (k : Int) : meetR ((List.range n).map fun v => f v) ((List.range n).map fun v => g v) k n = meetB n f g k := by
  unfold meetR meetB
  rw [Bool.eq_iff_iff, List.any_eq_true, List.any_eq_true]
  constructor
  · rintro ⟨v, hv, h⟩
    have hv' := List.mem_range.1 hv
    rw [levL_nth hv', levL_nth hv'] at h
    exact ⟨v, hv, h⟩
  · rintro ⟨v, hv, h⟩
    have hv' := List.mem_range.1 hv
    refine ⟨v, hv, ?_⟩
    rw [levL_nth hv', levL_nth hv']
    exact h
theorem hasL_is (f : Nat → Int) (n : Nat) (k : Int) : inB ((List.range n).map fun v => f v) k = hasL n f k := by
  unfold inB hasL; rw [List.any_map]; rfl
/-- the least one that is found is what a scan from the end keeps last -/
theorem scan_step {p : Int → Bool} {l : List Int} {j : Nat} (hj : j < l.length) : ((l.drop j).find? p).getD 0 = cond (p (nth l j)) (nth l j) (((l.drop (j + 1)).find? p).getD 0) := by
  have e : l.drop j = nth l j :: l.drop (j + 1) := by rw [nth_eq hj, ← List.drop_eq_getElem_cons hj]
  rw [e]
  cases hp : p (nth l j) with
  | true => rw [List.find?_cons_of_pos hp]; rfl
  | false => rw [List.find?_cons_of_neg (by simp [hp])]; rfl
/-- one of both is wrong -/
theorem pairC_lev {ck : Bool} {O : List Int} {s t : Int} : pairC ck O s t = if levC ck O s = 0 then levC ck O t else levC ck O s := by
  unfold pairC levC
  cases ck with
  | false => simp
  | true =>
    rw [if_pos rfl, if_pos rfl, if_pos rfl]
    by_cases h1 : 0 ≤ s ∧ s < (O.length : Int) - 1
    · rw [if_pos h1, if_pos rfl]
      by_cases h2 : 0 ≤ t ∧ t < (O.length : Int) - 1
      · rw [if_pos ⟨h1, h2⟩, if_pos h2]
      · rw [if_neg (fun h => h2 h.2), if_neg h2]
    · rw [if_neg (fun h => h1 h.1), if_neg h1, if_neg (by omega)]
section
variable {nx nb : Nat → List Int} {n s t : Nat} (h : Rev nx nb n) (hin : InN nx n) (hs : s < n) (ht : t < n)
include h hin hs ht
/-- the path comes to its end only at its end -/
theorem path_end {k : Nat} (hk : lev nb n t s = k) {i : Nat} (hi : i ≤ k) : (nth (pathI nx (lev nb n t) k s) i = t ↔ i = k) := by
  rw [pathI_nth _ _ _ _ hi]
  obtain ⟨g1, g2, _⟩ := pathL_at h ht hin k s hs hk i hi
  constructor
  · intro e
    have e2 : nth (pathL nx (lev nb n t) k s) i = t := by omega
    rw [e2, ((lev_ok nb n t ht).zero t ht).2 rfl] at g2
    omega
  · rintro rfl
    rw [pathL_last h ht hin hs hk]
end
end Go.Proofs.YtgnjffnkmdodeaaGreat
/- The program's levels (chapter 7): ways, in a direction; open. -/
namespace Go.Proofs.YtgnjffnkmdodeaaGreat
open Go Go.RowKit
set_option maxRecDepth 100000 in
set_option maxHeartbeats 2000000 in
theorem waysOut (po : Option Addr) (no co : Nat) (O : List Int) (pt : Option Addr) (nt ct : Nat) (T : List Int) (pr : Option Addr) (nr cr : Nat) (R : List Int) (pv : Option Addr) (nv cv : Nat) (V : List Int) (k : Nat) (w : World) (hO : Rd w 1 po no (encI O)) (hT : Rd w 1 pt nt (encI T)) (hok : OffOk O T) (hct : nt ≤ ct) (hk1 : k + 1 < O.length) :
    Calls Tryz.prog 82 #[.agg #[.slice po no co, .slice pt nt ct, .slice pr nr cr, .slice pv nv cv], .int .i64 k] w fun e w' => e = .returned (.slice (cutp pt ct (nth O k).toNat 1) (rowL O T k).length (ct - (nth O k).toNat)) ∧ Ext w w' := by
  have S0 := Lib.hid ((Sep.start w).al #[.slice po no co, .slice pt nt ct, .slice pr nr cr, .slice pv nv cv] 79 w.heap.size rfl)
  have na1 := hO.small
  have l1 := hO.nI
  have l2 := hT.nI
  have pA := hO.ptr
  have q1 := hok.lo k (by omega)
  have q2 := hok.le k hk1
  have q3 := hok.hi (k + 1) hk1
  have hrl := rowL_len hok hk1
  have RL0 := hT.rowOf hok hct hk1
  have g1 := hO.cI (k := k) (by omega)
  have g2 := hO.cI (k := k + 1) (by omega)
  obtain ⟨a, ha⟩ : ∃ a : Nat, nth O k = (a : Int) := ⟨(nth O k).toNat, by omega⟩
  obtain ⟨c, hc⟩ : ∃ c : Nat, nth O (k + 1) = (c : Int) := ⟨(nth O (k + 1)).toNat, by omega⟩
  rw [ha] at q1 q2 hrl RL0 g1
  rw [hc] at q2 q3 hrl RL0 g2
  simp only [Int.toNat_natCast] at hrl RL0
  have hq3 : (c:Int) ≤ ct := by omega
  have d1 : (0:Int) ≤ k := by omega
  have d2 : (k:Int) < no := by omega
  have d3 : (0:Int) ≤ (k:Int) + 1 := by omega
  have d4 : (k:Int) + 1 < no := by omega
  have RL := Lib.hid RL0
  rw [hrl, ha, Int.toNat_natCast]
  clear hO hT hok ha hc hrl RL0 l1 l2 q3 hk1
  go_enter Tryz.func82, Tryz.ntmps82
  go_wp2
  obtain ⟨X, hX⟩ : ∃ X, X = w.alloc (.cells #[.slice po no co, .slice pt nt ct, .slice pr nr cr, .slice pv nv cv] 79) := ⟨_, rfl⟩
  have SX := Lib.hid (hX ▸ S0.out : Sep w X [.blk w.heap.size 79 #[.slice po no co, .slice pt nt ct, .slice pr nr cr, .slice pv nv cv]])
  rw [← hX]
  clear hX S0
  have bz := (SX.out.blk 0 rfl).lt; have b0 := (SX.out.blk 0 rfl).cell 0; have b1 := (SX.out.blk 0 rfl).cell 1; have b2 := (SX.out.blk 0 rfl).cell 2; have b3 := (SX.out.blk 0 rfl).cell 3
  replace g1 := SX.out.ext.cell g1
  replace g2 := SX.out.ext.cell g2
  have y0 := fun x : ExtOf X => x.ext.cell b0
  have y1 := fun x : ExtOf X => x.ext.cell b1
  have y2 := fun x : ExtOf X => x.ext.cell b2
  have y3 := fun x : ExtOf X => x.ext.cell b3
  have x1 := fun x : ExtOf X => x.ext.cell g1
  have x2 := fun x : ExtOf X => x.ext.cell g2
  refine wp_region_ext (by kernel_rfl) (by kernel_rfl) ?_
  repeat (go_big_quiet_step ((fail)))
  refine wpQuiet_nil ?_
  rintro w1 ⟨⟨_, hb1⟩, rfl⟩
  go_wp2
  go_ret
  exact ⟨rfl, Ext.trans SX.out.ext hb1⟩
theorem waysOutR (po : Option Addr) (no co : Nat) (O : List Int) (pt : Option Addr) (nt ct : Nat) (T : List Int) (pr : Option Addr) (nr cr : Nat) (R : List Int) (pv : Option Addr) (nv cv : Nat) (V : List Int) (k : Nat) (w : World) (hO : Rd w 1 po no (encI O)) (hT : Rd w 1 pt nt (encI T)) (hok : OffOk O T) (hct : nt ≤ ct) (hk1 : k + 1 < O.length) :
    ∃ q c, Rd w 1 q (rowL O T k).length (encI (rowL O T k)) ∧ ∀ W, Ext w W → Calls Tryz.prog 82 #[.agg #[.slice po no co, .slice pt nt ct, .slice pr nr cr, .slice pv nv cv], .int .i64 k] W fun e w' => e = .returned (.slice q (rowL O T k).length c) ∧ Ext W w' := by
  refine ⟨_, _, ?_, fun W h => waysOut po no co O pt nt ct T pr nr cr R pv nv cv V k W (hO.ext h) (hT.ext h) hok hct hk1⟩
  have := hT.rowOf hok hct hk1
  rw [← rowL_len hok hk1] at this
  exact this
set_option maxRecDepth 100000 in
set_option maxHeartbeats 2000000 in
theorem waysIn (po : Option Addr) (no co : Nat) (O : List Int) (pt : Option Addr) (nt ct : Nat) (T : List Int) (pr : Option Addr) (nr cr : Nat) (R : List Int) (pv : Option Addr) (nv cv : Nat) (V : List Int) (k : Nat) (w : World) (hO : Rd w 1 pr nr (encI R)) (hT : Rd w 1 pv nv (encI V)) (hok : OffOk R V) (hct : nv ≤ cv) (hk1 : k + 1 < R.length) :
    Calls Tryz.prog 81 #[.agg #[.slice po no co, .slice pt nt ct, .slice pr nr cr, .slice pv nv cv], .int .i64 k] w fun e w' => e = .returned (.slice (cutp pv cv (nth R k).toNat 1) (rowL R V k).length (cv - (nth R k).toNat)) ∧ Ext w w' := by
  have S0 := Lib.hid ((Sep.start w).al #[.slice po no co, .slice pt nt ct, .slice pr nr cr, .slice pv nv cv] 79 w.heap.size rfl)
  have na1 := hO.small
  have l1 := hO.nI
  have l2 := hT.nI
  have pA := hO.ptr
  have q1 := hok.lo k (by omega)
  have q2 := hok.le k hk1
  have q3 := hok.hi (k + 1) hk1
  have hrl := rowL_len hok hk1
  have RL0 := hT.rowOf hok hct hk1
  have g1 := hO.cI (k := k) (by omega)
  have g2 := hO.cI (k := k + 1) (by omega)
  obtain ⟨a, ha⟩ : ∃ a : Nat, nth R k = (a : Int) := ⟨(nth R k).toNat, by omega⟩
  obtain ⟨c, hc⟩ : ∃ c : Nat, nth R (k + 1) = (c : Int) := ⟨(nth R (k + 1)).toNat, by omega⟩
  rw [ha] at q1 q2 hrl RL0 g1
  rw [hc] at q2 q3 hrl RL0 g2
  simp only [Int.toNat_natCast] at hrl RL0
  have hq3 : (c:Int) ≤ cv := by omega
  have d1 : (0:Int) ≤ k := by omega
  have d2 : (k:Int) < nr := by omega
  have d3 : (0:Int) ≤ (k:Int) + 1 := by omega
  have d4 : (k:Int) + 1 < nr := by omega
  have RL := Lib.hid RL0
  rw [hrl, ha, Int.toNat_natCast]
  clear hO hT hok ha hc hrl RL0 l1 l2 q3 hk1
  go_enter Tryz.func81, Tryz.ntmps81
  go_wp2
  obtain ⟨X, hX⟩ : ∃ X, X = w.alloc (.cells #[.slice po no co, .slice pt nt ct, .slice pr nr cr, .slice pv nv cv] 79) := ⟨_, rfl⟩
  have SX := Lib.hid (hX ▸ S0.out : Sep w X [.blk w.heap.size 79 #[.slice po no co, .slice pt nt ct, .slice pr nr cr, .slice pv nv cv]])
  rw [← hX]
  clear hX S0
  have bz := (SX.out.blk 0 rfl).lt; have b0 := (SX.out.blk 0 rfl).cell 0; have b1 := (SX.out.blk 0 rfl).cell 1; have b2 := (SX.out.blk 0 rfl).cell 2; have b3 := (SX.out.blk 0 rfl).cell 3
  replace g1 := SX.out.ext.cell g1
  replace g2 := SX.out.ext.cell g2
  have y0 := fun x : ExtOf X => x.ext.cell b0
  have y1 := fun x : ExtOf X => x.ext.cell b1
  have y2 := fun x : ExtOf X => x.ext.cell b2
  have y3 := fun x : ExtOf X => x.ext.cell b3
  have x1 := fun x : ExtOf X => x.ext.cell g1
  have x2 := fun x : ExtOf X => x.ext.cell g2
  refine wp_region_ext (by kernel_rfl) (by kernel_rfl) ?_
  repeat (go_big_quiet_step ((fail)))
  refine wpQuiet_nil ?_
  rintro w1 ⟨⟨_, hb1⟩, rfl⟩
  go_wp2
  go_ret
  exact ⟨rfl, Ext.trans SX.out.ext hb1⟩
theorem waysInR (po : Option Addr) (no co : Nat) (O : List Int) (pt : Option Addr) (nt ct : Nat) (T : List Int) (pr : Option Addr) (nr cr : Nat) (R : List Int) (pv : Option Addr) (nv cv : Nat) (V : List Int) (k : Nat) (w : World) (hO : Rd w 1 pr nr (encI R)) (hT : Rd w 1 pv nv (encI V)) (hok : OffOk R V) (hct : nv ≤ cv) (hk1 : k + 1 < R.length) :
    ∃ q c, Rd w 1 q (rowL R V k).length (encI (rowL R V k)) ∧ ∀ W, Ext w W → Calls Tryz.prog 81 #[.agg #[.slice po no co, .slice pt nt ct, .slice pr nr cr, .slice pv nv cv], .int .i64 k] W fun e w' => e = .returned (.slice q (rowL R V k).length c) ∧ Ext W w' := by
  refine ⟨_, _, ?_, fun W h => waysIn po no co O pt nt ct T pr nr cr R pv nv cv V k W (hO.ext h) (hT.ext h) hok hct hk1⟩
  have := hT.rowOf hok hct hk1
  rw [← rowL_len hok hk1] at this
  exact this
theorem waysSize (po : Option Addr) (no co : Nat) (pt : Option Addr) (nt ct : Nat) (pr : Option Addr) (nr cr : Nat) (pv : Option Addr) (nv cv : Nat) (w : World) (h : 1 ≤ no) (hn : no ≤ 9223372036854775807) :
    Calls Tryz.prog 51 #[.agg #[.slice po no co, .slice pt nt ct, .slice pr nr cr, .slice pv nv cv]] w fun e w' => e = .returned (.int .i64 ((no:Int) - 1)) ∧ Ext w w' := by
  have S0 := Lib.hid ((Sep.start w).al #[.slice po no co, .slice pt nt ct, .slice pr nr cr, .slice pv nv cv] 79 w.heap.size rfl)
  go_enter Tryz.func51, Tryz.ntmps51
  go_wp2
  go_ret
  exact ⟨rfl, S0.out.ext⟩
/-- where a direction leads -/
def nextV (back : Bool) (rv : Value) : Value := if back = true then .func (.func 81) #[rv] #[] else .func (.func 82) #[rv] #[]
theorem waysNext (po : Option Addr) (no co : Nat) (pt : Option Addr) (nt ct : Nat) (pr : Option Addr) (nr cr : Nat) (pv : Option Addr) (nv cv : Nat) (back : Bool) (w : World) :
    Calls Tryz.prog 57 #[.agg #[.slice po no co, .slice pt nt ct, .slice pr nr cr, .slice pv nv cv], .bool back] w fun e w' => e = .returned (nextV back (.agg #[.slice po no co, .slice pt nt ct, .slice pr nr cr, .slice pv nv cv])) ∧ Ext w w' := by
  have S0 := Lib.hid ((Sep.start w).al #[.slice po no co, .slice pt nt ct, .slice pr nr cr, .slice pv nv cv] 79 w.heap.size rfl)
  cases back <;>
  (go_enter Tryz.func57, Tryz.ntmps57
   go_wp2
   go_ret
   exact ⟨rfl, S0.out.ext⟩)
/-- the error of rows and of places -/
def openC (ck : Bool) (O : List Int) (l : List Int) : Int := if ck = true then (if l.all (fun x => decide (0 ≤ x) && decide (x < (O.length : Int) - 1)) = true then 0 else 1) else 40
set_option maxRecDepth 100000 in
set_option maxHeartbeats 4000000 in
theorem openL (po : Option Addr) (no co : Nat) (O : List Int) (pt : Option Addr) (nt ct : Nat) (T : List Int) (pr : Option Addr) (nr cr : Nat) (R : List Int) (pv : Option Addr) (nv cv : Nat) (V : List Int) (p : Option Addr) (m c : Nat) (l : List Int) (w : World) (hO : Rd w 1 po no (encI O)) (hT : Rd w 1 pt nt (encI T)) (hR : Rd w 1 pr nr (encI R)) (hV : Rd w 1 pv nv (encI V)) (hct : nt ≤ ct) (hcv : nv ≤ cv) (hl : Rd w 1 p m (encI l)) :
    Calls Tryz.prog 49 #[.agg #[.slice po no co, .slice pt nt ct, .slice pr nr cr, .slice pv nv cv], .slice p m c] w fun e w' => e = .returned (.tuple #[.agg #[.slice po no co, .slice pt nt ct, .slice pr nr cr, .slice pv nv cv], .int .i64 (openC (checkR O T R V) O l)]) ∧ Ext w w' := by
  have S0 := Lib.hid ((((Sep.start w).al #[.slice po no co, .slice pt nt ct, .slice pr nr cr, .slice pv nv cv] 24 w.heap.size rfl).al #[.slice none 0 0, .slice none 0 0, .slice none 0 0, .slice none 0 0] 79 (w.heap.size + 1) (by simp)).al #[.slice po no co, .slice pt nt ct, .slice pr nr cr, .slice pv nv cv] 79 (w.heap.size + 1 + 1) (by simp))
  have HC := Lib.hid (fun W1 (h : Ext w W1) => CheckR po no co O pt nt ct T pr nr cr R pv nv cv V W1 (hO.ext h) (hT.ext h) (hR.ext h) (hV.ext h) hct hcv)
  have l1 := hO.nI
  have n1 := hO.small
  have p1 := hl.ptr
  have n2 := hl.small
  have L1 := Lib.hid hl.nI
  have HL := Lib.hid hl; clear hl
  cases hck : checkR O T R V with
  | false =>
    rw [hck] at HC
    have HF : Hid (openC false O l = 40) := rfl
    clear hO hT hR hV hck l1
    go_enter Tryz.func49, Tryz.ntmps49
    go_wp2_with (go_at_call 24; go_must (refine (HC.out _ S0.out.ext).mono ?_; rintro e w1 ⟨rfl, hb⟩; have S1 := Lib.hid (S0.out.call hb); have vz := (S1.out.blk 0 rfl).lt; have v0 := (S1.out.blk 0 rfl).cell 0; have v1 := (S1.out.blk 0 rfl).cell 1; have v2 := (S1.out.blk 0 rfl).cell 2; have v3 := (S1.out.blk 0 rfl).cell 3; have zz := (S1.out.blk 1 rfl).lt; have z0 := (S1.out.blk 1 rfl).cell 0; have z1 := (S1.out.blk 1 rfl).cell 1; have z2 := (S1.out.blk 1 rfl).cell 2; have z3 := (S1.out.blk 1 rfl).cell 3; have zf0 := (S1.out.blk 1 rfl).frozen 0; have zf1 := (S1.out.blk 1 rfl).frozen 1; have zf2 := (S1.out.blk 1 rfl).frozen 2; have zf3 := (S1.out.blk 1 rfl).frozen 3; clear hb))
    have S7 := (((S1.out.set 1 rfl 0 (.slice po no co)).set 1 rfl 1 (.slice pt nt ct)).set 1 rfl 2 (.slice pr nr cr)).set 1 rfl 3 (.slice pv nv cv)
    have b0 := (S7.blk 1 rfl).cell 0
    have b1 := (S7.blk 1 rfl).cell 1
    have b2 := (S7.blk 1 rfl).cell 2
    have b3 := (S7.blk 1 rfl).cell 3
    refine bodyPost_ret (v := .tuple #[.agg #[.slice po no co, .slice pt nt ct, .slice pr nr cr, .slice pv nv cv], .int .i64 40]) (by simp [results, Tryz.results49, go_sem, b0, b1, b2, b3, Tryz.sizeOf79, Tryz.isAgg79]) rfl ⟨(by rw [HF.out]), S7.ext⟩
  | true =>
    rw [hck] at HC
    have r := offB_parts (halfB_off (checkR_half hck).2.2.1)
    have hno1 : 1 ≤ no := by omega
    have LO := Lib.hid l1
    have HSZ := Lib.hid (fun W => waysSize po no co pt nt ct pr nr cr pv nv cv W hno1 n1)
    clear hO hT hR hV hck l1 r
    go_enter Tryz.func49, Tryz.ntmps49
    go_wp2_with (go_at_call 24; go_must (refine (HC.out _ S0.out.ext).mono ?_; rintro e w1 ⟨rfl, hb⟩; have S1 := Lib.hid (S0.out.call hb); have vz := (S1.out.blk 0 rfl).lt; have v0 := (S1.out.blk 0 rfl).cell 0; have v1 := (S1.out.blk 0 rfl).cell 1; have v2 := (S1.out.blk 0 rfl).cell 2; have v3 := (S1.out.blk 0 rfl).cell 3; have zz := (S1.out.blk 1 rfl).lt; have z0 := (S1.out.blk 1 rfl).cell 0; have z1 := (S1.out.blk 1 rfl).cell 1; have z2 := (S1.out.blk 1 rfl).cell 2; have z3 := (S1.out.blk 1 rfl).cell 3; have zf0 := (S1.out.blk 1 rfl).frozen 0; have zf1 := (S1.out.blk 1 rfl).frozen 1; have zf2 := (S1.out.blk 1 rfl).frozen 2; have zf3 := (S1.out.blk 1 rfl).frozen 3; clear hb))
    go_loopw [8, 17] (fun _ i wr => ∃ k : Nat, k ≤ m ∧ i = .int .i64 k ∧ Hid ((l.take k).all (fun x => decide (0 ≤ x) && decide (x < (O.length : Int) - 1)) = true) ∧ Sep w wr [.blk (w.heap.size + 1 + 1) 79 #[.slice po no co, .slice pt nt ct, .slice pr nr cr, .slice pv nv cv], .blk (w.heap.size + 1) 79 #[.slice none 0 0, .slice none 0 0, .slice none 0 0, .slice none 0 0], .blk w.heap.size 24 #[.slice po no co, .slice pt nt ct, .slice pr nr cr, .slice pv nv cv]]) (fun _ i _ => m - (intOf i).toNat)
    case atStart => exact ⟨0, Nat.zero_le _, rfl, rfl, S1.out⟩
    case round =>
      clear S0 S1 v0 v1 v2 v3 vz z0 z1 z2 z3 zz zf0 zf1 zf2 zf3
      obtain ⟨k, hk, rfl, ha, S⟩ := hrel
      have vz := (S.blk 0 rfl).lt; have v0 := (S.blk 0 rfl).cell 0; have v1 := (S.blk 0 rfl).cell 1; have v2 := (S.blk 0 rfl).cell 2; have v3 := (S.blk 0 rfl).cell 3
      have zz := (S.blk 1 rfl).lt; have z0 := (S.blk 1 rfl).cell 0; have z1 := (S.blk 1 rfl).cell 1; have z2 := (S.blk 1 rfl).cell 2; have z3 := (S.blk 1 rfl).cell 3
      have zf0 := (S.blk 1 rfl).frozen 0
      have zf1 := (S.blk 1 rfl).frozen 1
      have zf2 := (S.blk 1 rfl).frozen 2
      have zf3 := (S.blk 1 rfl).frozen 3
      by_cases hlt : k < m
      · have g1 := S.ext.cell (HL.out.cI hlt)
        have d1 : (0:Int) ≤ k := by omega
        have d2 : (k:Int) < m := by omega
        have hkL : k < l.length := by rw [← L1.out]; exact hlt
        obtain ⟨x, hx⟩ : ∃ x, x = nth l k := ⟨_, rfl⟩
        rw [← hx] at g1
        have HX := Lib.hid hx
        clear hx
        by_cases h1 : x < 0
        · have e1 : decide (x < 0) = true := by simpa using h1
          have HF : Hid (openC true O l = 1) := by
            unfold Hid openC
            rw [if_pos rfl, if_neg]
            rw [all_false_at _ l k hkL (by rw [← HX.out]; simp; omega)]; simp
          clear h1
          have SH := Lib.hid S; clear S
          go_wp2
          have S7 := (((SH.out.set 1 rfl 0 (.slice po no co)).set 1 rfl 1 (.slice pt nt ct)).set 1 rfl 2 (.slice pr nr cr)).set 1 rfl 3 (.slice pv nv cv)
          have b0 := (S7.blk 1 rfl).cell 0
          have b1 := (S7.blk 1 rfl).cell 1
          have b2 := (S7.blk 1 rfl).cell 2
          have b3 := (S7.blk 1 rfl).cell 3
          refine bodyPost_ret (v := .tuple #[.agg #[.slice po no co, .slice pt nt ct, .slice pr nr cr, .slice pv nv cv], .int .i64 1]) (by simp [results, Tryz.results49, go_sem, b0, b1, b2, b3, Tryz.sizeOf79, Tryz.isAgg79]) rfl ⟨(by rw [HF.out]), S7.ext⟩
        · have e1 : decide (x < 0) = false := by simpa using h1
          by_cases h2 : (no:Int) - 1 ≤ x
          · have e2 : decide ((no:Int) - 1 ≤ x) = true := by simpa using h2
            have HF : Hid (openC true O l = 1) := by
              unfold Hid openC
              rw [if_pos rfl, if_neg]
              have := LO.out
              rw [all_false_at _ l k hkL (by rw [← HX.out]; simp; omega)]; simp
            clear h1 h2
            have SH := Lib.hid S; clear S
            go_wp2_with (go_at_call 51; go_must (refine (HSZ.out _).mono ?_; rintro e w2 ⟨rfl, hb⟩; have S2 := Lib.hid (SH.out.call hb); have tz := (S2.out.blk 0 rfl).lt; have t0 := (S2.out.blk 0 rfl).cell 0; have t1 := (S2.out.blk 0 rfl).cell 1; have t2 := (S2.out.blk 0 rfl).cell 2; have t3 := (S2.out.blk 0 rfl).cell 3; have yz := (S2.out.blk 1 rfl).lt; have y0 := (S2.out.blk 1 rfl).cell 0; have y1 := (S2.out.blk 1 rfl).cell 1; have y2 := (S2.out.blk 1 rfl).cell 2; have y3 := (S2.out.blk 1 rfl).cell 3; have yf0 := (S2.out.blk 1 rfl).frozen 0; have yf1 := (S2.out.blk 1 rfl).frozen 1; have yf2 := (S2.out.blk 1 rfl).frozen 2; have yf3 := (S2.out.blk 1 rfl).frozen 3; clear hb))
            have S7 := (((S2.out.set 1 rfl 0 (.slice po no co)).set 1 rfl 1 (.slice pt nt ct)).set 1 rfl 2 (.slice pr nr cr)).set 1 rfl 3 (.slice pv nv cv)
            have b0 := (S7.blk 1 rfl).cell 0
            have b1 := (S7.blk 1 rfl).cell 1
            have b2 := (S7.blk 1 rfl).cell 2
            have b3 := (S7.blk 1 rfl).cell 3
            refine bodyPost_ret (v := .tuple #[.agg #[.slice po no co, .slice pt nt ct, .slice pr nr cr, .slice pv nv cv], .int .i64 1]) (by simp [results, Tryz.results49, go_sem, b0, b1, b2, b3, Tryz.sizeOf79, Tryz.isAgg79]) rfl ⟨(by rw [HF.out]), S7.ext⟩
          · have e2 : decide ((no:Int) - 1 ≤ x) = false := by simpa using h2
            have HS : Hid ((l.take (k + 1)).all (fun x => decide (0 ≤ x) && decide (x < (O.length : Int) - 1)) = true) := by
              have := LO.out
              exact all_step _ l k hkL ha.out (by rw [← HX.out]; simp; omega)
            clear h1 h2 ha
            have SH := Lib.hid S; clear S
            go_wp2_with (go_at_call 51; go_must (refine (HSZ.out _).mono ?_; rintro e w2 ⟨rfl, hb⟩; have S2 := Lib.hid (SH.out.call hb); clear hb))
            go_roundw
            case rel => exact ⟨k + 1, by omega, by go_num, HS.out, S2.out⟩
            case measure => simp [intOf]; omega
      · have HF : Hid (openC true O l = 0) := by
          unfold Hid openC
          rw [if_pos rfl, if_pos (all_end _ l k (by rw [← L1.out]; exact hlt) ha.out)]
        clear ha
        have SH := Lib.hid S; clear S
        go_wp2
        have S7 := (((SH.out.set 1 rfl 0 (.slice po no co)).set 1 rfl 1 (.slice pt nt ct)).set 1 rfl 2 (.slice pr nr cr)).set 1 rfl 3 (.slice pv nv cv)
        have b0 := (S7.blk 1 rfl).cell 0
        have b1 := (S7.blk 1 rfl).cell 1
        have b2 := (S7.blk 1 rfl).cell 2
        have b3 := (S7.blk 1 rfl).cell 3
        refine bodyPost_ret (v := .tuple #[.agg #[.slice po no co, .slice pt nt ct, .slice pr nr cr, .slice pv nv cv], .int .i64 0]) (by simp [results, Tryz.results49, go_sem, b0, b1, b2, b3, Tryz.sizeOf79, Tryz.isAgg79]) rfl ⟨(by rw [HF.out]), S7.ext⟩
end Go.Proofs.YtgnjffnkmdodeaaGreat
/- A range over a function whose yields point to memory: what is yielded is told with a relation of the value and the world. -/
namespace Go.Proofs.YtgnjffnkmdodeaaGreat
open Go Go.RowKit
/-- what speaks of no more than what lies below B -/
def FarFrom {β : Type} (B : Nat) (I : β → World → Prop) : Prop :=
  ∀ s Z W W', B ≤ Z.heap.size → Below B Z W → Below B Z W' → I s W → I s W'
theorem FarFrom.below {β : Type} {B : Nat} {I : β → World → Prop} (h : FarFrom B I) {s : β} {W W' : World} (hB : B ≤ W.heap.size) (hb : Below B W W') (hs : I s W) : I s W' := h s W W W' hB (Below.refl _ _) hb hs
theorem FarFrom.putObj {β : Type} {B : Nat} {I : β → World → Prop} (h : FarFrom B I) {s : β} {W : World} {l : Nat} {o : Obj} (o' : Obj) (hs : I s W) (hB : B ≤ l) (hl : W.heap[l]? = some o) : I s (W.putObj l o') :=
  h.below (by have := (Array.getElem?_eq_some_iff.1 hl).1; omega) ((Below.refl B W).grown (grownBy_putObj' W l o') (by have := (Array.getElem?_eq_some_iff.1 hl).1; omega) (fun k e => by cases e; exact hB)) hs
/-- an iterator's contract: each yield comes with A of the value and the world; the iterator may write what it has made -/
def SeqA {α : Type} (F : Fence) (n : Nat) (P : Program) (g : Nat) (lb : Array Value) (encs : α → Array Value) (A : α → World → Prop) (Kp : World → World → Prop) (S Sp : List α → Prop) (N : Nat) (w : World) : Prop :=
  ∀ (l : Nat) (J Jx : List α → World → Prop) (W : World), Below w.heap.size w W → FarFrom W.heap.size J → FarFrom W.heap.size Jx →
    (∀ pre x V, J pre V → A x V → pre.length < N → YieldAt F (n - 1) P l (encs x) V fun e V' =>
      (e = .returned (.bool true) ∧ J (pre ++ [x]) V' ∧ Kp V V') ∨ (e = .returned (.bool false) ∧ Jx (pre ++ [x]) V')) →
    J [] W → CallsIn F n P g (#[.func (.yield l) #[] #[]] ++ lb) W fun e V => (∃ v, e = .returned v) ∧ ((∃ xs, S xs ∧ J xs V) ∨ (∃ pre, Sp pre ∧ Jx pre V))
section
variable {F : Fence} {n : Nat} {P : Program} {w : World}
theorem wpIn_rangeFunc_told {α : Type} {g : Operand} {ps : Array Tmp} {assign body : Code} {Q : Exit → Act → World → Prop} {a : Act}
    (hro : F.round = none) (h1 : 1 ≤ n) {gf : Nat} {lb : Array Value} (hg : a.eval g = .func (.func gf) #[] lb) (hF : F.fn gf) (eg : ∀ args w, (callFunc gf args).run P w = .ok (.enter gf args) w)
    {encs : α → Array Value} {A : α → World → Prop} {Kp : World → World → Prop} {S Sp : List α → Prop} {N : Nat} {w0 : World} (hseq : SeqA F (n - 1) P gf lb encs A Kp S Sp N w0)
    (hKt : ∀ {X Y Z : World}, Kp X Y → Kp Y Z → Kp X Z) (hKb : ∀ (W : World) (l : Nat) (o o' : Obj), w.heap.size ≤ l → W.heap[l]? = some o → o.isCells = false → o.isWalk = false → Kp W (W.putObj l o')) (hb0 : Below w0.heap.size w0 w) (hps : ∀ x, (encs x).size = ps.size)
    (I : List α → World → Prop) (Ix : Code → List α → World → Prop) (hI : FarFrom w.heap.size I) (hIx : ∀ c, FarFrom w.heap.size (Ix c)) (hA : OwnFrom w.heap.size A) (h0 : I [] w) (a₁ : α → Act)
    (hassign : ∀ (l : Nat) (x : α) (W : World) (K : Act → World → Prop), K (a₁ x) W →
      assign.wpIn (F.inRound l) (n - 1 - 1) P (Exit.then K (fun _ _ _ => False)) { tmps := (ps.zip (encs x)).foldl (fun t (p, v) => t.setIfInBounds p v) a.tmps, defers := [] } W)
    (hbody : ∀ (l : Nat) (pre : List α) (x : α) (W : World), I pre W → A x W → pre.length < N → body.wpIn (F.inRound l) (n - 1 - 1) P (ownPostG w.heap.size Kp I Ix (pre ++ [x]) W) (a₁ x) W)
    (hdone : ∀ (D : Nat) (xs : List α) (W : World), w.heap.size ≤ D → S xs → I xs W → W.heap[D]? = some (.deferred (some [])) → Q .normal { a with defers := { target := .collected D, args := #[] } :: a.defers } W)
    (hstop : ∀ (D : Nat) (c : Code) (pre : List α) (W : World), w.heap.size ≤ D → Sp pre → Ix c pre W → W.heap[D]? = some (.deferred (some [])) → c.wpIn F n P Q { a with defers := { target := .collected D, args := #[] } :: a.defers } W) :
    (Code.rangeFunc g ps assign body).wpIn F n P Q a w := by
  refine wpIn_rangeFunc fun fn hfn => ?_
  rw [hro]
  have hB : w.heap.size ≤ w.heap.size + 1 := Nat.le_succ _
  obtain ⟨mk, hmk⟩ : ∃ mk : LoopState → Option Code → Loop, mk = fun st pe => { state := st, pending := pe, fn, tmps := a.tmps, params := ps, assign, body, defers := w.heap.size } := ⟨_, rfl⟩
  obtain ⟨V, hV⟩ : ∃ V, (w.alloc (.deferred (some []))).alloc (.loop (mk .ready none)) = V := ⟨_, rfl⟩
  have hVl : V.heap[w.heap.size + 1]? = some (.loop (mk .ready none)) := by
    have h := World.alloc_heap_new (w.alloc (.deferred (some []))) (.loop (mk .ready none))
    rw [World.size_alloc] at h
    rw [← hV]; exact h
  have hVd : V.heap[w.heap.size]? = some (.deferred (some [])) := by
    rw [← hV]; exact (Below.heap_alloc _ _ _ (by simp)).trans (World.alloc_heap_new w _)
  have hVb : Below w0.heap.size w0 V := by
    rw [← hV]; exact hb0.trans ((((Below.refl _ w).alloc (Nat.le_refl _) _).alloc (by simp) _).mono hb0.size)
  have hVs : w.heap.size ≤ V.heap.size := by have := (Array.getElem?_eq_some_iff.1 hVd).1; omega
  have hV0 : I [] V := by rw [← hV]; exact hI.below (Nat.le_refl _) (((Below.refl _ w).alloc (Nat.le_refl _) _).alloc (by simp) _) h0
  have lV : w.heap.size + 1 < V.heap.size := (Array.getElem?_eq_some_iff.1 hVl).1
  -- the two blocks of book-keeping lie below what the iterator makes
  have keep : ∀ {Z X Y : World} {k : Nat} {o : Obj}, Below V.heap.size Z X → Below V.heap.size Z Y → k < V.heap.size → X.heap[k]? = some o → Y.heap[k]? = some o := fun {Z X Y k o} h1 h2 hk hX => (h2.block k hk).trans ((h1.block k hk).symm.trans hX)
  refine ⟨w.heap.size + 1, [{ target := .collected w.heap.size, args := #[] }], V, { target := .fn (.func gf) lb, args := #[.func (.yield (w.heap.size + 1)) #[] #[]] }, V, gf, #[.func (.yield (w.heap.size + 1)) #[] #[]] ++ lb, V, ?_, ?_, ?_, ?_, fun _ => h1, ?_⟩
  · rw [← hV, hmk]; exact run_enterLoop_outer _ _ _ _ _
  · simp only [resolve, hg]; simp [go_sem]
  · intro f' hf'; simp [Target.leads] at hf'; subst hf'; exact hF
  · simp [invoke, go_sem, eg]
  refine (hseq (w.heap.size + 1)
    (fun pre W => I pre W ∧ W.heap[w.heap.size + 1]? = some (.loop (mk .ready none)) ∧ W.heap[w.heap.size]? = some (.deferred (some [])))
    (fun pre W => ∃ c, Ix c pre W ∧ W.heap[w.heap.size + 1]? = some (.loop (mk .done (some c))) ∧ W.heap[w.heap.size]? = some (.deferred (some []))) V hVb
    (fun s Z X Y hZ hx hy h => ⟨hI s Z X Y (Nat.le_trans hVs hZ) (hx.mono hVs) (hy.mono hVs) h.1, keep hx hy lV h.2.1, keep hx hy (by omega) h.2.2⟩)
    (fun s Z X Y hZ hx hy h => h.elim fun c h => ⟨c, hIx c s Z X Y (Nat.le_trans hVs hZ) (hx.mono hVs) (hy.mono hVs) h.1, keep hx hy lV h.2.1, keep hx hy (by omega) h.2.2⟩)
    ?_ ⟨hV0, hVl, hVd⟩).mono ?_
  · rintro pre x W ⟨hi, hl, hk⟩ hax hlen
    have hlt : w.heap.size + 1 < W.heap.size := (Array.getElem?_eq_some_iff.1 hl).1
    have hy := run_yield (P := P) (args := encs x) hl (by rw [hmk]; exact hps x)
    rw [hmk] at hy
    refine ⟨fn, _, assign, body, hy, roundIn_of_wpIn hfn (hassign _ x W _ ⟨_, run_beginRound hl (by rw [hmk]), ?_⟩)⟩
    have l2 : (W.putObj (w.heap.size + 1) (.loop { mk .ready none with state := .busy })).heap[w.heap.size + 1]? = some (.loop { mk .ready none with state := .busy }) := World.putObj_heap_same hlt
    have k2 : (W.putObj (w.heap.size + 1) (.loop { mk .ready none with state := .busy })).heap[w.heap.size]? = some (.deferred (some [])) := (World.putObj_heap_other (by omega)).trans hk
    have p2 : Kp W (W.putObj (w.heap.size + 1) (.loop { mk .ready none with state := .busy })) := hKb _ _ _ _ hB hl rfl rfl
    refine wpIn_mono (hbody _ pre x _ (hI.putObj _ hi hB hl) (hA.putObj _ hax hB hl rfl) hlen) ?_
    have fin : ∀ (jump : Option Code) (X : World), KeepsFrom w.heap.size (W.putObj (w.heap.size + 1) (.loop { mk .ready none with state := .busy })) X →
        (Instr.endRound (w.heap.size + 1) jump).run P X = .ok (.bool jump.isNone) (X.putObj (w.heap.size + 1) (.loop (mk (if jump.isNone then .ready else .done) jump))) ∧
        X.heap[w.heap.size + 1]? = some (.loop { mk .ready none with state := .busy }) ∧
        (X.putObj (w.heap.size + 1) (.loop (mk (if jump.isNone then .ready else .done) jump))).heap[w.heap.size + 1]? = some (.loop (mk (if jump.isNone then .ready else .done) jump)) ∧
        (X.putObj (w.heap.size + 1) (.loop (mk (if jump.isNone then .ready else .done) jump))).heap[w.heap.size]? = some (.deferred (some [])) := fun jump X hX => by
      have l3 := hX.same _ _ hB l2 rfl
      have hr := run_endRound (P := P) jump l3
      rw [hmk] at hr l3 ⊢
      exact ⟨hr, l3, World.putObj_heap_same (Array.getElem?_eq_some_iff.1 l3).1, (World.putObj_heap_other (by omega)).trans (hX.same _ _ (Nat.le_refl _) k2 rfl)⟩
    rintro e a3 X hp
    cases e with
    | normal =>
      obtain ⟨hX, hkp, hi3⟩ := hp
      obtain ⟨r1, r2, r3, r4⟩ := fin none X hX
      exact ⟨_, _, r1, .inl ⟨rfl, ⟨hI.putObj _ hi3 hB r2, r3, r4⟩, hKt (hKt p2 hkp) (hKb _ _ _ _ hB r2 rfl rfl)⟩⟩
    | ret =>
      obtain ⟨r1, r2, r3, r4⟩ := fin (some .ret) X hp.1
      exact ⟨_, _, r1, .inr ⟨rfl, .ret, (hIx _).putObj _ hp.2 hB r2, r3, r4⟩⟩
    | exit id =>
      obtain ⟨r1, r2, r3, r4⟩ := fin (some (.exit id)) X hp.1
      exact ⟨_, _, r1, .inr ⟨rfl, .exit id, (hIx _).putObj _ hp.2 hB r2, r3, r4⟩⟩
    | goto t =>
      obtain ⟨r1, r2, r3, r4⟩ := fin (some (.goto t)) X hp.1
      exact ⟨_, _, r1, .inr ⟨rfl, .goto t, (hIx _).putObj _ hp.2 hB r2, r3, r4⟩⟩
    | panic ch => exact hp.elim
    | outgrown => exact hp.elim
  · rintro e X ⟨⟨v, rfl⟩, (⟨xs, hS, hi, hl, hk⟩ | ⟨pre, hSp, c, hi, hl, hk⟩)⟩
    · have hr := run_endLoop (P := P) hl (by rw [hmk]; simp)
      rw [hmk] at hr
      exact ⟨none, _, hr, hdone _ xs _ (Nat.le_refl _) hS (hI.putObj _ hi hB hl) ((World.putObj_heap_other (by omega)).trans hk)⟩
    · have hr := run_endLoop (P := P) hl (by rw [hmk]; simp)
      rw [hmk] at hr
      exact ⟨some c, _, hr, hstop _ c pre _ (Nat.le_refl _) hSp ((hIx c).putObj _ hi hB hl) ((World.putObj_heap_other (by omega)).trans hk)⟩
end
/-- a world up to a block -/
def cutW (B : Nat) (w : World) : World := { w with heap := w.heap.extract 0 B }
theorem cutW_size {B : Nat} {w : World} (h : B ≤ w.heap.size) : (cutW B w).heap.size = B := by simp [cutW]; omega
theorem cutW_below {B : Nat} {w : World} (h : B ≤ w.heap.size) : Below B (cutW B w) w :=
  ⟨rfl, rfl, rfl, by rw [cutW_size h]; exact h, fun k hk => by
    show w.heap[k]? = (w.heap.extract 0 B)[k]?
    rw [Array.getElem?_extract]
    simp
    intro h2; omega⟩
/-- pieces that lie at B and behind, seen from the world up to B -/
theorem Sep.rebase {w0 w w' : World} {Γ : List Pc} {B : Nat} (S : Sep w0 w Γ) (h0 : w0.heap.size = B) (hB : B ≤ w'.heap.size) (hsame : ∀ p ∈ Γ, ∀ k, p.foot k → w'.heap[k]? = w.heap[k]?) : Sep (cutW B w') w' Γ :=
  ⟨by rw [Ext, cutW_size hB]; exact cutW_below hB, fun p hp => p.loc w w' (S.all p hp) (hsame p hp), fun p hp k hk => by rw [cutW_size hB, ← h0]; exact S.new p hp k hk, S.apart⟩
/-- pieces that lie below B speak of no more -/
theorem Sep.far {w0 w w' Z : World} {Γ : List Pc} {B : Nat} (S : Sep w0 w Γ) (h0 : w0.heap.size ≤ B) (hZ : B ≤ Z.heap.size) (h1 : Below B Z w) (h2 : Below B Z w') (hf : ∀ p ∈ Γ, ∀ k, p.foot k → k < B) : Sep w0 w' Γ :=
  ⟨⟨h2.os.trans (h1.os.symm.trans S.ext.os), h2.tape.trans (h1.tape.symm.trans S.ext.tape), h2.output.trans (h1.output.symm.trans S.ext.output), by have := h2.size; omega, fun k hk => (h2.block k (by omega)).trans ((h1.block k (by omega)).symm.trans (S.ext.block k hk))⟩,
    fun p hp => p.loc w w' (S.all p hp) fun k hk => (h2.block k (hf p hp k hk)).trans (h1.block k (hf p hp k hk)).symm, S.new, S.apart⟩
end Go.Proofs.YtgnjffnkmdodeaaGreat
/- The program's levels (chapter 7): fronts, the iterator's making; what it keeps. -/
namespace Go.Proofs.YtgnjffnkmdodeaaGreat
open Go Go.RowKit
set_option maxRecDepth 100000 in
set_option maxHeartbeats 2000000 in
theorem frontsG (po : Option Addr) (no co : Nat) (pt : Option Addr) (nt ct : Nat) (pr : Option Addr) (nr cr : Nat) (pv : Option Addr) (nv cv : Nat) (s : Int) (back : Bool) (w : World) :
    Calls Tryz.prog 52 #[.agg #[.slice po no co, .slice pt nt ct, .slice pr nr cr, .slice pv nv cv], .int .i64 s, .bool back] w fun e w' => ∃ b1 b2 b3, e = .returned (.func (.func 74) #[] #[.pointer (some ⟨b1, 0, none⟩), .pointer (some ⟨b2, 0, none⟩), .pointer (some ⟨b3, 0, none⟩)]) ∧
      Sep w w' [.blk b3 68 #[nextV back (.agg #[.slice po no co, .slice pt nt ct, .slice pr nr cr, .slice pv nv cv])], .blk b2 3 #[.int .i64 s], .blk b1 79 #[.slice po no co, .slice pt nt ct, .slice pr nr cr, .slice pv nv cv]] := by
  have S0 := Lib.hid (((Sep.start w).al #[.slice po no co, .slice pt nt ct, .slice pr nr cr, .slice pv nv cv] 79 w.heap.size rfl).al #[.int .i64 s] 3 (w.heap.size + 1) (by simp))
  cases back with
  | false =>
    have HN : Hid (∀ W, Calls Tryz.prog 57 #[.agg #[.slice po no co, .slice pt nt ct, .slice pr nr cr, .slice pv nv cv], .bool false] W fun e w' => e = .returned (.func (.func 82) #[.agg #[.slice po no co, .slice pt nt ct, .slice pr nr cr, .slice pv nv cv]] #[]) ∧ Ext W w') := fun W => waysNext po no co pt nt ct pr nr cr pv nv cv false W
    go_enter Tryz.func52, Tryz.ntmps52
    go_wp2_with (go_at_call 57; go_must (refine (HN.out _).mono ?_; rintro e w1 ⟨rfl, hb⟩; have S1 := Lib.hid (S0.out.call hb); clear hb))
    go_ret
    exact ⟨_, _, _, rfl, S1.out.al #[.func (.func 82) #[.agg #[.slice po no co, .slice pt nt ct, .slice pr nr cr, .slice pv nv cv]] #[]] 68 w1.heap.size rfl⟩
  | true =>
    have HN : Hid (∀ W, Calls Tryz.prog 57 #[.agg #[.slice po no co, .slice pt nt ct, .slice pr nr cr, .slice pv nv cv], .bool true] W fun e w' => e = .returned (.func (.func 81) #[.agg #[.slice po no co, .slice pt nt ct, .slice pr nr cr, .slice pv nv cv]] #[]) ∧ Ext W w') := fun W => waysNext po no co pt nt ct pr nr cr pv nv cv true W
    go_enter Tryz.func52, Tryz.ntmps52
    go_wp2_with (go_at_call 57; go_must (refine (HN.out _).mono ?_; rintro e w1 ⟨rfl, hb⟩; have S1 := Lib.hid (S0.out.call hb); clear hb))
    go_ret
    exact ⟨_, _, _, rfl, S1.out.al #[.func (.func 81) #[.agg #[.slice po no co, .slice pt nt ct, .slice pr nr cr, .slice pv nv cv]] #[]] 68 w1.heap.size rfl⟩
/-- what a round keeps: what lay below n₀, the iterator's boxes, and each row of cells from B on -/
structure KpF (n₀ B b1 b2 b3 : Nat) (W W' : World) : Prop where
  low : Below n₀ W W'
  x1 : W'.heap[b1]? = W.heap[b1]?
  x2 : W'.heap[b2]? = W.heap[b2]?
  x3 : W'.heap[b3]? = W.heap[b3]?
  up : ∀ (k : Nat) (o : Obj), B ≤ k → W.heap[k]? = some o → o.isCells = true → W'.heap[k]? = some o
theorem KpF.trans {n₀ B b1 b2 b3 : Nat} {X Y Z : World} (h : KpF n₀ B b1 b2 b3 X Y) (k : KpF n₀ B b1 b2 b3 Y Z) : KpF n₀ B b1 b2 b3 X Z :=
  ⟨h.low.trans k.low, k.x1.trans h.x1, k.x2.trans h.x2, k.x3.trans h.x3, fun i o hB h1 h2 => k.up i o hB (h.up i o hB h1 h2) h2⟩
/-- what is yielded -/
structure Yl where
  k : Nat
  F : List Int
  q : Option Addr
  c : Nat
abbrev YlOf (nx : Nat → List Int) (n s : Nat) := { x : Yl // IsFront (lev nx n s) n x.k x.F ∧ 0 < x.F.length }
def ylA {nx : Nat → List Int} {n s : Nat} (B : Nat) (x : YlOf nx n s) (W : World) : Prop := Rd W 1 x.1.q x.1.F.length (encI x.1.F) ∧ B ≤ (adr x.1.q 0).block
def ylE {nx : Nat → List Int} {n s : Nat} (x : YlOf nx n s) : Array Value := #[.int .i64 x.1.k, .slice x.1.q x.1.F.length x.1.c]
def ylS {nx : Nat → List Int} {n s : Nat} (xs : List (YlOf nx n s)) : Prop := xs.map (·.1.k) = List.range xs.length ∧ hasL n (lev nx n s) xs.length = false
/-- which places are seen -/
def seenL (X l : List Int) (n : Nat) : List Value := (List.range n).map fun v => .bool (decide (0 ≤ nth X v) || decide ((v : Int) ∈ l))
theorem seenL_len (X l : List Int) (n : Nat) : (seenL X l n).length = n := by simp [seenL]
theorem seenL_at {X l : List Int} {n v : Nat} (h : v < n) : (seenL X l n)[v]? = some (.bool (decide (0 ≤ nth X v) || decide ((v : Int) ∈ l))) := by
  simp [seenL, h]
theorem seenL_set {X l : List Int} {n v : Nat} (h : v < n) : (seenL X l n).set v (.bool true) = seenL X (l ++ [(v : Int)]) n := by
  apply List.ext_getElem
  · simp [seenL]
  · intro j h1 h2
    have hj : j < n := by simpa [seenL] using h2
    simp only [seenL, List.getElem_set, List.getElem_map, List.getElem_range]
    by_cases e : v = j
    · subst e; simp
    · rw [if_neg e]
      have : ((j : Int) ∈ l ++ [(v : Int)]) ↔ (j : Int) ∈ l := by
        rw [List.mem_append, List.mem_singleton]
        constructor
        · rintro (h | h)
          · exact h
          · omega
        · exact .inl
      simp only [this]
theorem seenL_next {nx : Nat → List Int} {n s k : Nat} {L : List Int} (hL : IsFront (lev nx n s) n ((k + 1 : Nat) : Int) L) : seenL (cutL (lev nx n s) n k) L n = seenL (cutL (lev nx n s) n (k + 1 : Nat)) [] n := by
  unfold seenL
  apply List.map_congr_left
  intro v hv
  rw [List.mem_range] at hv
  rw [cutL_nth hv, cutL_nth hv]
  congr 1
  rw [Bool.eq_iff_iff]
  simp only [Bool.or_eq_true, decide_eq_true_eq, cut_ge, List.not_mem_nil, or_false]
  rw [hL.2]
  simp
  omega
theorem seenL_0 {nx : Nat → List Int} {n s : Nat} (hs : s < n) : (List.replicate n (Value.bool false)).set s (.bool true) = seenL (cutL (lev nx n s) n (0 : Nat)) [] n := by
  apply List.ext_getElem
  · simp [seenL]
  · intro j h1 h2
    have hj : j < n := by simpa [seenL] using h2
    simp only [seenL, List.getElem_set, List.getElem_map, List.getElem_range, List.getElem_replicate]
    rw [cutL_nth hj]
    have h0 := (lev_ok nx n s hs).zero j hj
    by_cases e : s = j
    · rw [if_pos e]
      have : 0 ≤ cut (lev nx n s) ((0 : Nat) : Int) j := cut_ge.2 (by have := h0.2 e.symm; omega)
      simpa using this
    · rw [if_neg e]
      have : ¬ 0 ≤ cut (lev nx n s) ((0 : Nat) : Int) j := fun h => by
        have h1 := cut_ge.1 h
        exact e (h0.1 (by omega)).symm
      simpa using this
end Go.Proofs.YtgnjffnkmdodeaaGreat
/- The program's levels (chapter 7): the iterator over fronts, its contract. -/
namespace Go.Proofs.YtgnjffnkmdodeaaGreat
open Go Go.RowKit
attribute [local go_sem] Oper.semAt_some
/-- what lay low stays, and the iterator's boxes -/
structure LowF (n₀ b1 b2 b3 : Nat) (w W : World) : Prop where
  low : Below n₀ w W
  x1 : W.heap[b1]? = w.heap[b1]?
  x2 : W.heap[b2]? = w.heap[b2]?
  x3 : W.heap[b3]? = w.heap[b3]?
theorem LowF.far {n₀ b1 b2 b3 B : Nat} {w Z W W' : World} (h : LowF n₀ b1 b2 b3 w W) (h0 : n₀ ≤ B) (h1 : b1 < B) (h2 : b2 < B) (h3 : b3 < B) (hB : w.heap.size ≤ Z.heap.size) (k1 : Below B Z W) (k2 : Below B Z W') : LowF n₀ b1 b2 b3 w W' :=
  have e : ∀ k, k < B → W'.heap[k]? = W.heap[k]? := fun k hk => (k2.block k hk).trans (k1.block k hk).symm
  ⟨⟨k2.os.trans (k1.os.symm.trans h.low.os), k2.tape.trans (k1.tape.symm.trans h.low.tape), k2.output.trans (k1.output.symm.trans h.low.output), Nat.le_trans hB k2.size, fun k hk => (e k (by omega)).trans (h.low.block k hk)⟩,
    (e b1 h1).trans h.x1, (e b2 h2).trans h.x2, (e b3 h3).trans h.x3⟩
theorem front_bd8 {f : Nat → Int} {n : Nat} {k : Int} {F : List Int} (hF : IsFront f n k F) : (∀ x ∈ F, 0 ≤ x ∧ x < n) ∧ F.length ≤ n :=
  ⟨fun x hx => ⟨((hF.2 x).1 hx).1, ((hF.2 x).1 hx).2.1⟩, nodup_small hF.1 fun x hx => ⟨((hF.2 x).1 hx).1, ((hF.2 x).1 hx).2.1⟩⟩
def StQ (b s : Nat) (i : Nat) (v : Value) (W : World) : Prop := (i = 1 ∨ i = 3) → ∃ q, v = .slice q 1 1 ∧ W.ownsRow b 3 1 (.slice q 1 1) 1 (encI [(s : Int)])
theorem StQ_mono {b s : Nat} : ∀ i v W W', Ext W W' → StQ b s i v W → StQ b s i v W' := fun _ _ _ _ he h hi => let ⟨q, h1, h2⟩ := h hi; ⟨q, h1, he.own h2⟩
theorem made_bool (n : Nat) : (madeCells (Value.bool false).cells (n * 1)).toList = List.replicate n (.bool false) := by
  apply List.ext_getElem
  · simp [madeCells]
  · intro i h1 h2
    simp [madeCells, Value.cells, Nat.mod_one]
theorem infB : (Tryz.prog.info? 4).map (fun i => (i.zero, i.size, i.bytes)) = some (some (.bool false), 1, 1) := by kernel_rfl
set_option maxRecDepth 100000 in
set_option maxHeartbeats 16000000 in
theorem fronts_out (n1 : Nat) (hn1 : 1 ≤ n1) (po : Option Addr) (no co : Nat) (pt : Option Addr) (nt ct : Nat) (pr : Option Addr) (nr cr : Nat) (pv : Option Addr) (nv cv : Nat) (b1 b2 b3 n₀ n s : Nat) (nx : Nat → List Int) (w : World) (hw : n₀ ≤ w.heap.size)
    (hb1 : Blk w b1 79 #[.slice po no co, .slice pt nt ct, .slice pr nr cr, .slice pv nv cv]) (hb2 : Blk w b2 3 #[.int .i64 s]) (hb3 : Blk w b3 68 #[.func (.func 82) #[.agg #[.slice po no co, .slice pt nt ct, .slice pr nr cr, .slice pv nv cv]] #[]])
    (hs : s < n) (hn : n ≤ 200) (hno : no = n + 1) (hin : InN nx n)
    (HN : ∀ k, k < n → ∃ q c, ∀ W, Below n₀ w W → Rd W 1 q (nx k).length (encI (nx k)) ∧ Calls Tryz.prog 82 #[.agg #[.slice po no co, .slice pt nt ct, .slice pr nr cr, .slice pv nv cv], .int .i64 k] W fun e w' => e = .returned (.slice q (nx k).length c) ∧ Ext W w') :
    SeqA Fence.wide n1 Tryz.prog 74 #[.pointer (some ⟨b1, 0, none⟩), .pointer (some ⟨b2, 0, none⟩), .pointer (some ⟨b3, 0, none⟩)] (ylE : YlOf nx n s → Array Value) (ylA w.heap.size) (KpF n₀ w.heap.size b1 b2 b3) ylS (fun _ => True) n w := by
  intro l J Jx W hW hJ hJx hY h0
  obtain ⟨i0, hi0, hz0, hz1, hz2⟩ := info_parts infI
  obtain ⟨j0, hj0, hy0, hy1, hy2⟩ := info_parts infB
  have hBk := hW.size
  have q1 := hb1.lt
  have q2 := hb2.lt
  have q3 := hb3.lt
  have LW := Lib.hid (⟨hW.mono hw, hW.block b1 q1, hW.block b2 q2, hW.block b3 q3⟩ : LowF n₀ b1 b2 b3 w W)
  have HSZ := Lib.hid (fun W' => waysSize po no co pt nt ct pr nr cr pv nv cv W' (by omega) (by omega))
  have B1 : Blk W b1 79 #[.slice po no co, .slice pt nt ct, .slice pr nr cr, .slice pv nv cv] := LW.out.x1.trans hb1
  have B2 : Blk W b2 3 #[.int .i64 s] := LW.out.x2.trans hb2
  have B3 : Blk W b3 68 #[.func (.func 82) #[.agg #[.slice po no co, .slice pt nt ct, .slice pr nr cr, .slice pv nv cv]] #[]] := LW.out.x3.trans hb3
  have HB1 := Lib.hid hb1
  have HB2 := Lib.hid hb2
  have HB3 := Lib.hid hb3
  have HNX := Lib.hid HN
  have HIN := Lib.hid hin
  subst hno
  have HJ := Lib.hid hJ; clear hJ
  have HY := Lib.hid hY; clear hY
  clear hJx hW HN hin hb1 hb2 hb3
  have c10 := B1.cell 0
  have c11 := B1.cell 1
  have c12 := B1.cell 2
  have c13 := B1.cell 3
  have c20 := B2.cell 0
  have z1 := B1.lt
  have z2 := B2.lt
  clear B1 B2 B3
  refine callsIn_of_wp Tryz.func74 rfl trivial ?_ rfl
  simp only [Tryz.ntmps74, List.size_toArray, List.length_cons, List.length_nil, Nat.reduceAdd, Nat.reduceSub, Array.replicate_succ, Array.replicate_zero, List.push_toArray, List.append_toArray, List.nil_append, List.cons_append]
  refine wpIn_seq_k fun K hK => wpIn_wide.2 ?_
  go_wp2_with (first
    | (at_make; go_must (refine wpList_make_sep rfl _ _ _ rfl 4 j0 _ 1 Tryz.underlying51 hj0 hy0 hy1 (n:Int) n rfl rfl rfl (by rw [hy2]; omega) (by unfold maxLen; omega) S1.out ?_; intro w2 S'; rw [made_bool] at S'; have S2 := Lib.hid S'; clear S'))
    | (go_at_call 51; go_must (refine (HSZ.out _).mono ?_; rintro e w1 ⟨rfl, hb⟩; have S1 := Lib.hid ((Sep.start W).call hb); clear hb)))
  generalize hqs : (some ⟨w1.heap.size, 0, none⟩ : Option Addr) = qs at *
  clear hqs S1
  have pqs := (S2.out.rd 0 rfl (by omega)).ptr
  have c20a := S2.out.ext.cell c20
  have z2a := Nat.lt_of_lt_of_le z2 S2.out.ext.size
  have fz := own_frozen (S2.out.own 0 rfl) (by omega) s
  have cz := own_cell (S2.out.own 0 rfl) (k := s) (by omega)
  have d1 : (0:Int) ≤ s := by omega
  have d2 : (s:Int) < n := by omega
  refine wpIn_seq_k fun K2 hK2 => wpIn_wide.2 ?_
  go_wp2
  refine wpIn_seq_k fun K3 hK3 => wpIn_wide.2 ?_
  obtain ⟨X, hX⟩ : ∃ X, X = w2.setCell (adr qs s) (.bool true) := ⟨_, rfl⟩
  have SX := Lib.hid (hX ▸ (S2.out.setRow 0 rfl s (by omega) (.bool true)) : Sep W X _)
  rw [seenL_0 (nx := nx) hs] at SX
  rw [← hX]
  clear hX fz cz c20a z2a S2
  have g2 := SX.out.ext.cell c20
  have x2 := fun x : ExtOf X => x.ext.cell g2
  refine wp_region_mix [true, false, true, false] (StQ X.heap.size s) (by kernel_rfl) (by kernel_rfl) (by kernel_rfl) StQ_mono ?_
  simp only [nfM]
  repeat (go_big_quiet_step ((fail)))
  refine wpQuiet_nil ⟨⟨fun vs W1 hE hd => ?_, fun vs W1 hE hd => ?_, trivial⟩, fun vs W1 hE hkn => ?_⟩
  · simp [putM, execOp, go_sem]
    exact ⟨fun _ => ⟨_, rfl, World.ownsRow_lit (base := X.heap.size) W1 #[.int .i64 (s:Int)] 1 hE.size (by decide) rfl⟩, Ext.alloc (Below.refl _ _) _⟩
  · have k0 := hd 1 (by decide +kernel) rfl
    simp [putM, execOp, go_sem]
    exact ⟨fun _ => k0 (.inl rfl), Below.refl _ _⟩
  simp only [knowM] at hkn
  have k3 := hkn.2.1 (.inr rfl)
  simp only [putM, List.length_cons, List.length_nil, Nat.zero_add, Nat.reduceAdd, List.drop_succ_cons, List.drop_zero]
  obtain ⟨qf0, k1, ho⟩ := k3
  rw [k1]
  generalize vs 1 = v20
  have S4 := Lib.hid (SX.out.fresh hE ho (Nat.le_refl _))
  have J4 := Lib.hid (HJ.out [] W W W1 (Nat.le_refl _) (Below.refl _ _) S4.out.ext h0)
  have LW4 := Lib.hid (LW.out.far (Nat.le_trans hw hBk) (by omega) (by omega) (by omega) hBk (Below.refl _ _) S4.out.ext)
  clear x2 g2 hE hkn k1 ho SX h0
  simp [Act.put]
  go_wp2
  gi_wp2
  gi_loopw [6, 7, 8, 10, 12] (fun v6 v7 _ _ _ wr => ∃ (k : Nat) (pre : List (YlOf nx n s)) (F : List Int) (q : Option Addr) (c : Nat) (Z : World), k ≤ n ∧ Z.heap.size = W.heap.size ∧ v6 = .int .i64 k ∧ v7 = .slice q F.length c ∧ IsFront (lev nx n s) n k F ∧ pre.map (·.1.k) = List.range k ∧ J pre wr ∧ Sep Z wr [.own 3 1 q F.length c (encI F), .own 4 1 qs n n (seenL (cutL (lev nx n s) n k) [] n)] ∧ LowF n₀ b1 b2 b3 w wr) (fun v6 _ _ _ _ _ => n - (intOf v6).toNat)
  case atStart => exact ⟨0, [], [(s:Int)], qf0, 1, W, Nat.zero_le _, rfl, rfl, rfl, front_0 hs, rfl, J4.out, S4.out, LW4.out⟩
  case round =>
    clear S4 J4 LW4 c10 c11 c12 c13 c20 z1 z2
    obtain ⟨k, pre, F, q, c, Z, hk, hZ, rfl, rfl, hF, hpre, hJs, S, hL⟩ := hrel
    have bF := Lib.hid (front_bd8 hF)
    by_cases hl0 : F.length = 0
    · obtain rfl : F = [] := List.eq_nil_of_length_eq_zero hl0
      have HEND : Hid (ylS pre) := ⟨by rw [hpre]; congr 1; have := congrArg List.length hpre; simp at this; omega, by
        have := congrArg List.length hpre
        simp at this
        rw [this]
        cases e : hasL n (lev nx n s) k with
        | false => rfl
        | true => exact absurd ((front_has hF).1 e) (by simp)⟩
      have HJs := Lib.hid hJs
      clear hF hpre hJs hL bF hl0 S
      gi_wp2
      refine ⟨fun f hf => (by cases hf), ?_⟩
      gi_wp2
      go_end0
      exact ⟨⟨_, rfl⟩, .inl ⟨pre, HEND.out, HJs.out⟩⟩
    · have lf : 0 < F.length := by omega
      have hkn : k < n := has_lt hs ((front_has hF).2 lf)
      have hB := S.blt 0 rfl lf
      have hplen : pre.length = k := by have := congrArg List.length hpre; simpa using this
      obtain ⟨x, hx⟩ : ∃ x : YlOf nx n s, x.1 = ⟨k, F, q, c⟩ := ⟨⟨⟨k, F, q, c⟩, hF, lf⟩, rfl⟩
      obtain ⟨fn, tmps, assign, body, hy, hR⟩ := HY.out pre x wr hJs (by unfold ylA; rw [hx]; exact ⟨S.rdx 0 rfl, by have := hB.1; show w.heap.size ≤ (adr q 0).block; omega⟩) (by omega)
      have hp2 : Hid ((pre ++ [x]).map (·.1.k) = List.range (k + 1)) := by
        unfold Hid; rw [List.map_append, hpre, List.range_succ]; simp [hx]
      have hxe : ylE x = #[.int .i64 k, .slice q F.length c] := by unfold ylE; rw [hx]
      rw [hxe] at hy
      clear hxe hx
      have c1 : decide ((0:Int) < F.length) = true := by simpa using lf
      have HF := Lib.hid hF
      have HLW := Lib.hid hL
      have SH := Lib.hid S; clear S
      clear hF hL hpre hplen hl0 hJs hB
      gi_wp2
      refine hR.mono ?_
      rintro e W3 (⟨rfl, hJ3, hk3⟩ | ⟨rfl, hJx3⟩)
      · have hs3 : W.heap.size ≤ W3.heap.size := by have := SH.out.ext.size; have := hk3.low.size; omega
        have S3 := Lib.hid (SH.out.rebase hZ hs3 (fun p hp kk hkk => by
          have hpc : p.cells := cells_all (Γ := [.own 3 1 q F.length c (encI F), .own 4 1 qs n n (seenL (cutL (lev nx n s) n k) [] n)]) (fun p hp => by
            simp only [List.mem_cons, List.not_mem_nil, or_false] at hp
            rcases hp with rfl | rfl <;> exact .inr ⟨_, _, _, _, _, _, rfl⟩) p hp
          obtain ⟨o, h1, h2⟩ := hpc wr (SH.out.all p hp) kk hkk
          have h3 := SH.out.new p hp kk hkk
          rw [h1]; exact hk3.up kk o (by omega) h1 h2))
        have L3 := Lib.hid (⟨HLW.out.low.trans hk3.low, hk3.x1.trans HLW.out.x1, hk3.x2.trans HLW.out.x2, hk3.x3.trans HLW.out.x3⟩ : LowF n₀ b1 b2 b3 w W3)
        have HJ3 := Lib.hid hJ3
        have hZ3 : (cutW W.heap.size W3).heap.size = W.heap.size := cutW_size hs3
        have HZb := Lib.hid (cutW_below hs3)
        generalize cutW W.heap.size W3 = Z3 at *
        have HLOW : Hid (∀ wx Γ, Sep Z3 wx Γ → LowF n₀ b1 b2 b3 w wx) := fun wx Γ S => L3.out.far (Nat.le_trans hw hBk) (by omega) (by omega) (by omega) (by omega) HZb.out (by have := S.ext; rwa [Ext, hZ3] at this)
        have HSML : Hid (∀ (G m : List Int), (∀ x : Int, x ∈ G → 0 ≤ x ∧ x < n) → (∀ x : Int, x ∈ m → 0 ≤ x ∧ x < n) → (ahR (cutL (lev nx n s) n k) m (ahF nx (cutL (lev nx n s) n k) G [])).length ≤ n) := fun G m hG hm =>
          nodup_small (ahR_nodup (ahF_nodup List.nodup_nil)) fun x hx => by
            rcases ahR_mem.1 hx with h | ⟨h, _⟩
            · rcases ahF_mem.1 h with h | ⟨v, h3, h4, _⟩
              · cases h
              · obtain ⟨h5, h6⟩ := hG v h3
                exact HIN.out v.toNat (by omega) x h4
            · exact hm x h
        clear SH hJ3 hk3 hR hy HLW
        gi_wp2
        refine wpIn_wide.2 ?_
        go_loopw [8, 10, 12, 34] (fun v8 _ _ v34 wx => ∃ (i : Nat) (l' : List Int) (q2 : Option Addr) (c2 : Nat), i ≤ F.length ∧ v34 = .int .i64 i ∧ v8 = .slice q2 l'.length c2 ∧ Hid (l' = ahF nx (cutL (lev nx n s) n k) (F.take i) []) ∧ Sep Z3 wx [.own 3 1 q2 l'.length c2 (encI l'), .own 3 1 q F.length c (encI F), .own 4 1 qs n n (seenL (cutL (lev nx n s) n k) l' n)]) (fun _ _ _ v34 _ => F.length - (intOf v34).toNat)
        case atStart => exact ⟨0, [], none, 0, Nat.zero_le _, rfl, rfl, rfl, S3.out.nilrow 3 1⟩
        case round =>
          clear S3
          obtain ⟨i, l', q2, c2, hi, rfl, rfl, hl, S⟩ := hrel
          have pF := (S.rdx 1 rfl).ptr
          have hF200 : F.length ≤ 200 := by have := bF.out.2; omega
          by_cases hif : i < F.length
          · have g1 := (S.rdx 1 rfl).cI hif
            obtain ⟨f1, f2⟩ := bF.out.1 _ (nth_mem hif)
            have hT := ahF_take (nx := nx) (X := cutL (lev nx n s) n k) (l := []) hif
            rw [← hl.out] at hT
            have hsm : ∀ j (m : List Int), m = (nx (nth F i).toNat).take j → (ahR (cutL (lev nx n s) n k) m l').length ≤ n := fun j m hm => by
              rw [hl.out]
              refine HSML.out _ m (fun x hx => bF.out.1 x (List.mem_of_mem_take hx)) fun x hx => ?_
              rw [hm] at hx
              exact HIN.out _ (by omega) x (List.mem_of_mem_take hx)
            obtain ⟨a, ha⟩ : ∃ a : Nat, nth F i = (a : Int) := ⟨(nth F i).toNat, by omega⟩
            rw [ha] at g1 f1 f2 hT hsm
            rw [Int.toNat_natCast] at hT hsm
            have HT := Lib.hid hT
            have HS := Lib.hid hsm
            have HRB := Lib.hid (HIN.out a (by omega))
            obtain ⟨qr, crr, hW⟩ := HNX.out a (by omega)
            have HWW := Lib.hid hW
            have hb3' : Blk wr b3 68 #[.func (.func 82) #[.agg #[.slice po (n + 1) co, .slice pt nt ct, .slice pr nr cr, .slice pv nv cv]] #[]] := (HLOW.out _ _ S).x3.trans HB3.out
            have b3c := hb3'.cell 0
            have b3z := hb3'.lt
            clear hb3'
            have HC := Lib.hid (hW wr (HLOW.out _ _ S).low).2
            have e1 : (0:Int) ≤ i := by omega
            have e2 : (i:Int) < F.length := by omega
            generalize nx a = RW at *
            have SH := Lib.hid S; clear S
            clear ha hT hsm hW hl
            go_wp2_with (go_at_call 82; go_must (refine HC.out.mono ?_; rintro e w5 ⟨rfl, hb⟩; have S5 := Lib.hid (SH.out.call hb); clear hb))
            have nrw := (HWW.out _ (HLOW.out _ _ S5.out).low).1.small
            have prw := (HWW.out _ (HLOW.out _ _ S5.out).low).1.ptr
            go_loopw [8, 12, 42] (fun v8 _ v42 wx => ∃ (j : Nat) (l2 : List Int) (q3 : Option Addr) (c3 : Nat), j ≤ RW.length ∧ v42 = .int .i64 j ∧ v8 = .slice q3 l2.length c3 ∧ Hid (l2 = ahR (cutL (lev nx n s) n k) (RW.take j) l') ∧ Sep Z3 wx [.own 3 1 q3 l2.length c3 (encI l2), .own 3 1 q F.length c (encI F), .own 4 1 qs n n (seenL (cutL (lev nx n s) n k) l2 n)]) (fun _ _ v42 _ => RW.length - (intOf v42).toNat)
            case atStart => exact ⟨0, l', q2, c2, Nat.zero_le _, rfl, rfl, rfl, S5.out⟩
            case round =>
              clear SH S5 HC b3c b3z g1
              obtain ⟨j, l2, q3, c3, hj, rfl, rfl, hl2, S⟩ := hrel
              by_cases hlj : j < RW.length
              · have g1 := (HWW.out _ (HLOW.out _ _ S).low).1.cI hlj
                obtain ⟨r1, r2⟩ := HRB.out _ (nth_mem hlj)
                have hst := ahR_take (X := cutL (lev nx n s) n k) (l := l') hlj
                rw [← hl2.out] at hst
                have hlen := HS.out j _ rfl
                rw [← hl2.out] at hlen
                obtain ⟨b, hb⟩ : ∃ b : Nat, nth RW j = (b : Int) := ⟨(nth RW j).toNat, by omega⟩
                rw [hb] at g1 r1 r2 hst
                have e3 : (0:Int) ≤ j := by omega
                have e4 : (j:Int) < RW.length := by omega
                have ps := (S.rdx 2 rfl).ptr
                have pq3 := (S.rdx 0 rfl).ptr
                have fz := own_frozen (S.own 2 rfl) (by omega) b
                have cz := own_cell (S.own 2 rfl) (k := b) (by omega)
                have hat := seenL_at (X := cutL (lev nx n s) n k) (l := l2) (n := n) (v := b) (by omega)
                have hnn : 0 ≤ b ∧ (b:Int) < n := ⟨by omega, r2⟩
                clear hl2 hb
                cases hsn : (decide (0 ≤ nth (cutL (lev nx n s) n k) b) || decide ((b : Int) ∈ l2)) with
                | true =>
                  have HST : Hid (ahR (cutL (lev nx n s) n k) (RW.take (j + 1)) l' = l2) := by
                    unfold Hid; rw [hst]; unfold ah1; rw [if_neg]
                    rw [Int.toNat_natCast]
                    rw [Bool.or_eq_true, decide_eq_true_eq, decide_eq_true_eq] at hsn
                    rintro ⟨h1, h2⟩
                    rcases hsn with h | h
                    · omega
                    · exact h2 h
                  rw [hsn] at hat
                  rw [List.getD_eq_getElem?_getD, hat, Option.getD_some] at cz
                  have SH := Lib.hid S; clear S
                  clear hst hat hsn fz
                  go_wp2
                  go_roundw
                  case rel => exact ⟨j + 1, l2, q3, c3, by omega, by go_num, rfl, HST.out.symm, SH.out⟩
                  case measure => simp [intOf]; omega
                | false =>
                  have HST : Hid (ahR (cutL (lev nx n s) n k) (RW.take (j + 1)) l' = l2 ++ [(b:Int)]) := by
                    unfold Hid; rw [hst]; unfold ah1; rw [if_pos]
                    rw [Int.toNat_natCast]
                    rw [Bool.or_eq_false_iff, decide_eq_false_iff_not, decide_eq_false_iff_not] at hsn
                    exact ⟨by omega, hsn.2⟩
                  rw [hsn] at hat
                  rw [List.getD_eq_getElem?_getD, hat, Option.getD_some] at cz
                  have hnb : b < n := by omega
                  have SH := Lib.hid S; clear S
                  clear hst hat hsn
                  have HR1 : Hid (Rd ((wr.setCell (adr qs b) (.bool true)).alloc (.cells #[.int .i64 (b:Int)] 3)) 1 (some ⟨wr.heap.size, 0, none⟩) 1 (encI [(b:Int)])) := by
                    have h := Rd.oneI (wr.setCell (adr qs b) (.bool true)) 3 (b:Int)
                    have e : (wr.setCell (adr qs b) (.bool true)).heap.size = wr.heap.size := by simp
                    rw [e] at h; exact h
                  go_wp2_with (at_builtin; go_must (refine wpList_append_sep rfl _ _ _ rfl 3 i0 _ 1 8 Tryz.underlying22 hi0 hz0 hz1 hz2 rfl (by omega) ((SH.out.setRow 2 rfl b (by omega) (.bool true)).junk _) 0 q3 l2.length c3 _ rfl rfl _ 1 1 _ rfl HR1.out (one_encI _) (by omega) (by omega) ?_; intro q' c' w7 S' hsz; have S6 := Lib.hid S'; clear S' hsz))
                  go_roundw
                  case rel => exact ⟨j + 1, l2 ++ [(b:Int)], q', c', by omega, by go_num, by rw [List.length_append]; rfl, HST.out.symm, by rw [List.length_append, encI_append, ← seenL_set hnb]; exact S6.out⟩
                  case measure => simp [intOf]; omega
              · obtain rfl : j = RW.length := by omega
                have HL2 : Hid (l2 = ahF nx (cutL (lev nx n s) n k) (F.take (i + 1)) []) := by
                  unfold Hid; rw [HT.out, hl2.out, List.take_length]
                have SH := Lib.hid S; clear S
                clear hl2
                go_wp2
                go_roundw
                case rel => exact ⟨i + 1, l2, q3, c3, by omega, by go_num, rfl, HL2.out, SH.out⟩
                case measure => simp [intOf]; omega
          · obtain rfl : i = F.length := by omega
            have hl' := hl.out
            rw [List.take_length] at hl'
            have hF2 : IsFront (lev nx n s) n ((k + 1 : Nat) : Int) l' := by
              rw [hl']
              exact front_next hs HIN.out HF.out fun v hv => by rw [cutL_nth hv]; exact cut_lt
            rw [seenL_next hF2] at S
            have HF2 := Lib.hid hF2
            have HLX := Lib.hid (HLOW.out _ _ S)
            have HJX := Lib.hid (HJ.out _ Z3 W3 wr (by omega) HZb.out (by have := S.ext; rwa [Ext, hZ3] at this) HJ3.out)
            have SH := Lib.hid S; clear S
            clear hl hl' hF2
            go_wp2
            gi_wp2
            go_roundw
            case rel => exact ⟨k + 1, _, l', q2, c2, Z3, by omega, hZ3, by go_num, rfl, HF2.out, hp2.out, HJX.out, SH.out.pick [0, 2] (by decide) rfl, HLX.out⟩
            case measure => simp [intOf]; omega
      · have HX3 := Lib.hid hJx3
        clear hJx3
        gi_wp2
        go_end0
        exact ⟨⟨_, rfl⟩, .inr ⟨_, trivial, HX3.out⟩⟩
set_option maxRecDepth 100000 in
set_option maxHeartbeats 16000000 in
theorem fronts_in (n1 : Nat) (hn1 : 1 ≤ n1) (po : Option Addr) (no co : Nat) (pt : Option Addr) (nt ct : Nat) (pr : Option Addr) (nr cr : Nat) (pv : Option Addr) (nv cv : Nat) (b1 b2 b3 n₀ n s : Nat) (nx : Nat → List Int) (w : World) (hw : n₀ ≤ w.heap.size)
    (hb1 : Blk w b1 79 #[.slice po no co, .slice pt nt ct, .slice pr nr cr, .slice pv nv cv]) (hb2 : Blk w b2 3 #[.int .i64 s]) (hb3 : Blk w b3 68 #[.func (.func 81) #[.agg #[.slice po no co, .slice pt nt ct, .slice pr nr cr, .slice pv nv cv]] #[]])
    (hs : s < n) (hn : n ≤ 200) (hno : no = n + 1) (hin : InN nx n)
    (HN : ∀ k, k < n → ∃ q c, ∀ W, Below n₀ w W → Rd W 1 q (nx k).length (encI (nx k)) ∧ Calls Tryz.prog 81 #[.agg #[.slice po no co, .slice pt nt ct, .slice pr nr cr, .slice pv nv cv], .int .i64 k] W fun e w' => e = .returned (.slice q (nx k).length c) ∧ Ext W w') :
    SeqA Fence.wide n1 Tryz.prog 74 #[.pointer (some ⟨b1, 0, none⟩), .pointer (some ⟨b2, 0, none⟩), .pointer (some ⟨b3, 0, none⟩)] (ylE : YlOf nx n s → Array Value) (ylA w.heap.size) (KpF n₀ w.heap.size b1 b2 b3) ylS (fun _ => True) n w := by
  intro l J Jx W hW hJ hJx hY h0
  obtain ⟨i0, hi0, hz0, hz1, hz2⟩ := info_parts infI
  obtain ⟨j0, hj0, hy0, hy1, hy2⟩ := info_parts infB
  have hBk := hW.size
  have q1 := hb1.lt
  have q2 := hb2.lt
  have q3 := hb3.lt
  have LW := Lib.hid (⟨hW.mono hw, hW.block b1 q1, hW.block b2 q2, hW.block b3 q3⟩ : LowF n₀ b1 b2 b3 w W)
  have HSZ := Lib.hid (fun W' => waysSize po no co pt nt ct pr nr cr pv nv cv W' (by omega) (by omega))
  have B1 : Blk W b1 79 #[.slice po no co, .slice pt nt ct, .slice pr nr cr, .slice pv nv cv] := LW.out.x1.trans hb1
  have B2 : Blk W b2 3 #[.int .i64 s] := LW.out.x2.trans hb2
  have B3 : Blk W b3 68 #[.func (.func 81) #[.agg #[.slice po no co, .slice pt nt ct, .slice pr nr cr, .slice pv nv cv]] #[]] := LW.out.x3.trans hb3
  have HB1 := Lib.hid hb1
  have HB2 := Lib.hid hb2
  have HB3 := Lib.hid hb3
  have HNX := Lib.hid HN
  have HIN := Lib.hid hin
  subst hno
  have HJ := Lib.hid hJ; clear hJ
  have HY := Lib.hid hY; clear hY
  clear hJx hW HN hin hb1 hb2 hb3
  have c10 := B1.cell 0
  have c11 := B1.cell 1
  have c12 := B1.cell 2
  have c13 := B1.cell 3
  have c20 := B2.cell 0
  have z1 := B1.lt
  have z2 := B2.lt
  clear B1 B2 B3
  refine callsIn_of_wp Tryz.func74 rfl trivial ?_ rfl
  simp only [Tryz.ntmps74, List.size_toArray, List.length_cons, List.length_nil, Nat.reduceAdd, Nat.reduceSub, Array.replicate_succ, Array.replicate_zero, List.push_toArray, List.append_toArray, List.nil_append, List.cons_append]
  refine wpIn_seq_k fun K hK => wpIn_wide.2 ?_
  go_wp2_with (first
    | (at_make; go_must (refine wpList_make_sep rfl _ _ _ rfl 4 j0 _ 1 Tryz.underlying51 hj0 hy0 hy1 (n:Int) n rfl rfl rfl (by rw [hy2]; omega) (by unfold maxLen; omega) S1.out ?_; intro w2 S'; rw [made_bool] at S'; have S2 := Lib.hid S'; clear S'))
    | (go_at_call 51; go_must (refine (HSZ.out _).mono ?_; rintro e w1 ⟨rfl, hb⟩; have S1 := Lib.hid ((Sep.start W).call hb); clear hb)))
  generalize hqs : (some ⟨w1.heap.size, 0, none⟩ : Option Addr) = qs at *
  clear hqs S1
  have pqs := (S2.out.rd 0 rfl (by omega)).ptr
  have c20a := S2.out.ext.cell c20
  have z2a := Nat.lt_of_lt_of_le z2 S2.out.ext.size
  have fz := own_frozen (S2.out.own 0 rfl) (by omega) s
  have cz := own_cell (S2.out.own 0 rfl) (k := s) (by omega)
  have d1 : (0:Int) ≤ s := by omega
  have d2 : (s:Int) < n := by omega
  refine wpIn_seq_k fun K2 hK2 => wpIn_wide.2 ?_
  go_wp2
  refine wpIn_seq_k fun K3 hK3 => wpIn_wide.2 ?_
  obtain ⟨X, hX⟩ : ∃ X, X = w2.setCell (adr qs s) (.bool true) := ⟨_, rfl⟩
  have SX := Lib.hid (hX ▸ (S2.out.setRow 0 rfl s (by omega) (.bool true)) : Sep W X _)
  rw [seenL_0 (nx := nx) hs] at SX
  rw [← hX]
  clear hX fz cz c20a z2a S2
  have g2 := SX.out.ext.cell c20
  have x2 := fun x : ExtOf X => x.ext.cell g2
  refine wp_region_mix [true, false, true, false] (StQ X.heap.size s) (by kernel_rfl) (by kernel_rfl) (by kernel_rfl) StQ_mono ?_
  simp only [nfM]
  repeat (go_big_quiet_step ((fail)))
  refine wpQuiet_nil ⟨⟨fun vs W1 hE hd => ?_, fun vs W1 hE hd => ?_, trivial⟩, fun vs W1 hE hkn => ?_⟩
  · simp [putM, execOp, go_sem]
    exact ⟨fun _ => ⟨_, rfl, World.ownsRow_lit (base := X.heap.size) W1 #[.int .i64 (s:Int)] 1 hE.size (by decide) rfl⟩, Ext.alloc (Below.refl _ _) _⟩
  · have k0 := hd 1 (by decide +kernel) rfl
    simp [putM, execOp, go_sem]
    exact ⟨fun _ => k0 (.inl rfl), Below.refl _ _⟩
  simp only [knowM] at hkn
  have k3 := hkn.2.1 (.inr rfl)
  simp only [putM, List.length_cons, List.length_nil, Nat.zero_add, Nat.reduceAdd, List.drop_succ_cons, List.drop_zero]
  obtain ⟨qf0, k1, ho⟩ := k3
  rw [k1]
  generalize vs 1 = v20
  have S4 := Lib.hid (SX.out.fresh hE ho (Nat.le_refl _))
  have J4 := Lib.hid (HJ.out [] W W W1 (Nat.le_refl _) (Below.refl _ _) S4.out.ext h0)
  have LW4 := Lib.hid (LW.out.far (Nat.le_trans hw hBk) (by omega) (by omega) (by omega) hBk (Below.refl _ _) S4.out.ext)
  clear x2 g2 hE hkn k1 ho SX h0
  simp [Act.put]
  go_wp2
  gi_wp2
  gi_loopw [6, 7, 8, 10, 12] (fun v6 v7 _ _ _ wr => ∃ (k : Nat) (pre : List (YlOf nx n s)) (F : List Int) (q : Option Addr) (c : Nat) (Z : World), k ≤ n ∧ Z.heap.size = W.heap.size ∧ v6 = .int .i64 k ∧ v7 = .slice q F.length c ∧ IsFront (lev nx n s) n k F ∧ pre.map (·.1.k) = List.range k ∧ J pre wr ∧ Sep Z wr [.own 3 1 q F.length c (encI F), .own 4 1 qs n n (seenL (cutL (lev nx n s) n k) [] n)] ∧ LowF n₀ b1 b2 b3 w wr) (fun v6 _ _ _ _ _ => n - (intOf v6).toNat)
  case atStart => exact ⟨0, [], [(s:Int)], qf0, 1, W, Nat.zero_le _, rfl, rfl, rfl, front_0 hs, rfl, J4.out, S4.out, LW4.out⟩
  case round =>
    clear S4 J4 LW4 c10 c11 c12 c13 c20 z1 z2
    obtain ⟨k, pre, F, q, c, Z, hk, hZ, rfl, rfl, hF, hpre, hJs, S, hL⟩ := hrel
    have bF := Lib.hid (front_bd8 hF)
    by_cases hl0 : F.length = 0
    · obtain rfl : F = [] := List.eq_nil_of_length_eq_zero hl0
      have HEND : Hid (ylS pre) := ⟨by rw [hpre]; congr 1; have := congrArg List.length hpre; simp at this; omega, by
        have := congrArg List.length hpre
        simp at this
        rw [this]
        cases e : hasL n (lev nx n s) k with
        | false => rfl
        | true => exact absurd ((front_has hF).1 e) (by simp)⟩
      have HJs := Lib.hid hJs
      clear hF hpre hJs hL bF hl0 S
      gi_wp2
      refine ⟨fun f hf => (by cases hf), ?_⟩
      gi_wp2
      go_end0
      exact ⟨⟨_, rfl⟩, .inl ⟨pre, HEND.out, HJs.out⟩⟩
    · have lf : 0 < F.length := by omega
      have hkn : k < n := has_lt hs ((front_has hF).2 lf)
      have hB := S.blt 0 rfl lf
      have hplen : pre.length = k := by have := congrArg List.length hpre; simpa using this
      obtain ⟨x, hx⟩ : ∃ x : YlOf nx n s, x.1 = ⟨k, F, q, c⟩ := ⟨⟨⟨k, F, q, c⟩, hF, lf⟩, rfl⟩
      obtain ⟨fn, tmps, assign, body, hy, hR⟩ := HY.out pre x wr hJs (by unfold ylA; rw [hx]; exact ⟨S.rdx 0 rfl, by have := hB.1; show w.heap.size ≤ (adr q 0).block; omega⟩) (by omega)
      have hp2 : Hid ((pre ++ [x]).map (·.1.k) = List.range (k + 1)) := by
        unfold Hid; rw [List.map_append, hpre, List.range_succ]; simp [hx]
      have hxe : ylE x = #[.int .i64 k, .slice q F.length c] := by unfold ylE; rw [hx]
      rw [hxe] at hy
      clear hxe hx
      have c1 : decide ((0:Int) < F.length) = true := by simpa using lf
      have HF := Lib.hid hF
      have HLW := Lib.hid hL
      have SH := Lib.hid S; clear S
      clear hF hL hpre hplen hl0 hJs hB
      gi_wp2
      refine hR.mono ?_
      rintro e W3 (⟨rfl, hJ3, hk3⟩ | ⟨rfl, hJx3⟩)
      · have hs3 : W.heap.size ≤ W3.heap.size := by have := SH.out.ext.size; have := hk3.low.size; omega
        have S3 := Lib.hid (SH.out.rebase hZ hs3 (fun p hp kk hkk => by
          have hpc : p.cells := cells_all (Γ := [.own 3 1 q F.length c (encI F), .own 4 1 qs n n (seenL (cutL (lev nx n s) n k) [] n)]) (fun p hp => by
            simp only [List.mem_cons, List.not_mem_nil, or_false] at hp
            rcases hp with rfl | rfl <;> exact .inr ⟨_, _, _, _, _, _, rfl⟩) p hp
          obtain ⟨o, h1, h2⟩ := hpc wr (SH.out.all p hp) kk hkk
          have h3 := SH.out.new p hp kk hkk
          rw [h1]; exact hk3.up kk o (by omega) h1 h2))
        have L3 := Lib.hid (⟨HLW.out.low.trans hk3.low, hk3.x1.trans HLW.out.x1, hk3.x2.trans HLW.out.x2, hk3.x3.trans HLW.out.x3⟩ : LowF n₀ b1 b2 b3 w W3)
        have HJ3 := Lib.hid hJ3
        have hZ3 : (cutW W.heap.size W3).heap.size = W.heap.size := cutW_size hs3
        have HZb := Lib.hid (cutW_below hs3)
        generalize cutW W.heap.size W3 = Z3 at *
        have HLOW : Hid (∀ wx Γ, Sep Z3 wx Γ → LowF n₀ b1 b2 b3 w wx) := fun wx Γ S => L3.out.far (Nat.le_trans hw hBk) (by omega) (by omega) (by omega) (by omega) HZb.out (by have := S.ext; rwa [Ext, hZ3] at this)
        have HSML : Hid (∀ (G m : List Int), (∀ x : Int, x ∈ G → 0 ≤ x ∧ x < n) → (∀ x : Int, x ∈ m → 0 ≤ x ∧ x < n) → (ahR (cutL (lev nx n s) n k) m (ahF nx (cutL (lev nx n s) n k) G [])).length ≤ n) := fun G m hG hm =>
          nodup_small (ahR_nodup (ahF_nodup List.nodup_nil)) fun x hx => by
            rcases ahR_mem.1 hx with h | ⟨h, _⟩
            · rcases ahF_mem.1 h with h | ⟨v, h3, h4, _⟩
              · cases h
              · obtain ⟨h5, h6⟩ := hG v h3
                exact HIN.out v.toNat (by omega) x h4
            · exact hm x h
        clear SH hJ3 hk3 hR hy HLW
        gi_wp2
        refine wpIn_wide.2 ?_
        go_loopw [8, 10, 12, 34] (fun v8 _ _ v34 wx => ∃ (i : Nat) (l' : List Int) (q2 : Option Addr) (c2 : Nat), i ≤ F.length ∧ v34 = .int .i64 i ∧ v8 = .slice q2 l'.length c2 ∧ Hid (l' = ahF nx (cutL (lev nx n s) n k) (F.take i) []) ∧ Sep Z3 wx [.own 3 1 q2 l'.length c2 (encI l'), .own 3 1 q F.length c (encI F), .own 4 1 qs n n (seenL (cutL (lev nx n s) n k) l' n)]) (fun _ _ _ v34 _ => F.length - (intOf v34).toNat)
        case atStart => exact ⟨0, [], none, 0, Nat.zero_le _, rfl, rfl, rfl, S3.out.nilrow 3 1⟩
        case round =>
          clear S3
          obtain ⟨i, l', q2, c2, hi, rfl, rfl, hl, S⟩ := hrel
          have pF := (S.rdx 1 rfl).ptr
          have hF200 : F.length ≤ 200 := by have := bF.out.2; omega
          by_cases hif : i < F.length
          · have g1 := (S.rdx 1 rfl).cI hif
            obtain ⟨f1, f2⟩ := bF.out.1 _ (nth_mem hif)
            have hT := ahF_take (nx := nx) (X := cutL (lev nx n s) n k) (l := []) hif
            rw [← hl.out] at hT
            have hsm : ∀ j (m : List Int), m = (nx (nth F i).toNat).take j → (ahR (cutL (lev nx n s) n k) m l').length ≤ n := fun j m hm => by
              rw [hl.out]
              refine HSML.out _ m (fun x hx => bF.out.1 x (List.mem_of_mem_take hx)) fun x hx => ?_
              rw [hm] at hx
              exact HIN.out _ (by omega) x (List.mem_of_mem_take hx)
            obtain ⟨a, ha⟩ : ∃ a : Nat, nth F i = (a : Int) := ⟨(nth F i).toNat, by omega⟩
            rw [ha] at g1 f1 f2 hT hsm
            rw [Int.toNat_natCast] at hT hsm
            have HT := Lib.hid hT
            have HS := Lib.hid hsm
            have HRB := Lib.hid (HIN.out a (by omega))
            obtain ⟨qr, crr, hW⟩ := HNX.out a (by omega)
            have HWW := Lib.hid hW
            have hb3' : Blk wr b3 68 #[.func (.func 81) #[.agg #[.slice po (n + 1) co, .slice pt nt ct, .slice pr nr cr, .slice pv nv cv]] #[]] := (HLOW.out _ _ S).x3.trans HB3.out
            have b3c := hb3'.cell 0
            have b3z := hb3'.lt
            clear hb3'
            have HC := Lib.hid (hW wr (HLOW.out _ _ S).low).2
            have e1 : (0:Int) ≤ i := by omega
            have e2 : (i:Int) < F.length := by omega
            generalize nx a = RW at *
            have SH := Lib.hid S; clear S
            clear ha hT hsm hW hl
            go_wp2_with (go_at_call 81; go_must (refine HC.out.mono ?_; rintro e w5 ⟨rfl, hb⟩; have S5 := Lib.hid (SH.out.call hb); clear hb))
            have nrw := (HWW.out _ (HLOW.out _ _ S5.out).low).1.small
            have prw := (HWW.out _ (HLOW.out _ _ S5.out).low).1.ptr
            go_loopw [8, 12, 42] (fun v8 _ v42 wx => ∃ (j : Nat) (l2 : List Int) (q3 : Option Addr) (c3 : Nat), j ≤ RW.length ∧ v42 = .int .i64 j ∧ v8 = .slice q3 l2.length c3 ∧ Hid (l2 = ahR (cutL (lev nx n s) n k) (RW.take j) l') ∧ Sep Z3 wx [.own 3 1 q3 l2.length c3 (encI l2), .own 3 1 q F.length c (encI F), .own 4 1 qs n n (seenL (cutL (lev nx n s) n k) l2 n)]) (fun _ _ v42 _ => RW.length - (intOf v42).toNat)
            case atStart => exact ⟨0, l', q2, c2, Nat.zero_le _, rfl, rfl, rfl, S5.out⟩
            case round =>
              clear SH S5 HC b3c b3z g1
              obtain ⟨j, l2, q3, c3, hj, rfl, rfl, hl2, S⟩ := hrel
              by_cases hlj : j < RW.length
              · have g1 := (HWW.out _ (HLOW.out _ _ S).low).1.cI hlj
                obtain ⟨r1, r2⟩ := HRB.out _ (nth_mem hlj)
                have hst := ahR_take (X := cutL (lev nx n s) n k) (l := l') hlj
                rw [← hl2.out] at hst
                have hlen := HS.out j _ rfl
                rw [← hl2.out] at hlen
                obtain ⟨b, hb⟩ : ∃ b : Nat, nth RW j = (b : Int) := ⟨(nth RW j).toNat, by omega⟩
                rw [hb] at g1 r1 r2 hst
                have e3 : (0:Int) ≤ j := by omega
                have e4 : (j:Int) < RW.length := by omega
                have ps := (S.rdx 2 rfl).ptr
                have pq3 := (S.rdx 0 rfl).ptr
                have fz := own_frozen (S.own 2 rfl) (by omega) b
                have cz := own_cell (S.own 2 rfl) (k := b) (by omega)
                have hat := seenL_at (X := cutL (lev nx n s) n k) (l := l2) (n := n) (v := b) (by omega)
                have hnn : 0 ≤ b ∧ (b:Int) < n := ⟨by omega, r2⟩
                clear hl2 hb
                cases hsn : (decide (0 ≤ nth (cutL (lev nx n s) n k) b) || decide ((b : Int) ∈ l2)) with
                | true =>
                  have HST : Hid (ahR (cutL (lev nx n s) n k) (RW.take (j + 1)) l' = l2) := by
                    unfold Hid; rw [hst]; unfold ah1; rw [if_neg]
                    rw [Int.toNat_natCast]
                    rw [Bool.or_eq_true, decide_eq_true_eq, decide_eq_true_eq] at hsn
                    rintro ⟨h1, h2⟩
                    rcases hsn with h | h
                    · omega
                    · exact h2 h
                  rw [hsn] at hat
                  rw [List.getD_eq_getElem?_getD, hat, Option.getD_some] at cz
                  have SH := Lib.hid S; clear S
                  clear hst hat hsn fz
                  go_wp2
                  go_roundw
                  case rel => exact ⟨j + 1, l2, q3, c3, by omega, by go_num, rfl, HST.out.symm, SH.out⟩
                  case measure => simp [intOf]; omega
                | false =>
                  have HST : Hid (ahR (cutL (lev nx n s) n k) (RW.take (j + 1)) l' = l2 ++ [(b:Int)]) := by
                    unfold Hid; rw [hst]; unfold ah1; rw [if_pos]
                    rw [Int.toNat_natCast]
                    rw [Bool.or_eq_false_iff, decide_eq_false_iff_not, decide_eq_false_iff_not] at hsn
                    exact ⟨by omega, hsn.2⟩
                  rw [hsn] at hat
                  rw [List.getD_eq_getElem?_getD, hat, Option.getD_some] at cz
                  have hnb : b < n := by omega
                  have SH := Lib.hid S; clear S
                  clear hst hat hsn
                  have HR1 : Hid (Rd ((wr.setCell (adr qs b) (.bool true)).alloc (.cells #[.int .i64 (b:Int)] 3)) 1 (some ⟨wr.heap.size, 0, none⟩) 1 (encI [(b:Int)])) := by
                    have h := Rd.oneI (wr.setCell (adr qs b) (.bool true)) 3 (b:Int)
                    have e : (wr.setCell (adr qs b) (.bool true)).heap.size = wr.heap.size := by simp
                    rw [e] at h; exact h
                  go_wp2_with (at_builtin; go_must (refine wpList_append_sep rfl _ _ _ rfl 3 i0 _ 1 8 Tryz.underlying22 hi0 hz0 hz1 hz2 rfl (by omega) ((SH.out.setRow 2 rfl b (by omega) (.bool true)).junk _) 0 q3 l2.length c3 _ rfl rfl _ 1 1 _ rfl HR1.out (one_encI _) (by omega) (by omega) ?_; intro q' c' w7 S' hsz; have S6 := Lib.hid S'; clear S' hsz))
                  go_roundw
                  case rel => exact ⟨j + 1, l2 ++ [(b:Int)], q', c', by omega, by go_num, by rw [List.length_append]; rfl, HST.out.symm, by rw [List.length_append, encI_append, ← seenL_set hnb]; exact S6.out⟩
                  case measure => simp [intOf]; omega
              · obtain rfl : j = RW.length := by omega
                have HL2 : Hid (l2 = ahF nx (cutL (lev nx n s) n k) (F.take (i + 1)) []) := by
                  unfold Hid; rw [HT.out, hl2.out, List.take_length]
                have SH := Lib.hid S; clear S
                clear hl2
                go_wp2
                go_roundw
                case rel => exact ⟨i + 1, l2, q3, c3, by omega, by go_num, rfl, HL2.out, SH.out⟩
                case measure => simp [intOf]; omega
          · obtain rfl : i = F.length := by omega
            have hl' := hl.out
            rw [List.take_length] at hl'
            have hF2 : IsFront (lev nx n s) n ((k + 1 : Nat) : Int) l' := by
              rw [hl']
              exact front_next hs HIN.out HF.out fun v hv => by rw [cutL_nth hv]; exact cut_lt
            rw [seenL_next hF2] at S
            have HF2 := Lib.hid hF2
            have HLX := Lib.hid (HLOW.out _ _ S)
            have HJX := Lib.hid (HJ.out _ Z3 W3 wr (by omega) HZb.out (by have := S.ext; rwa [Ext, hZ3] at this) HJ3.out)
            have SH := Lib.hid S; clear S
            clear hl hl' hF2
            go_wp2
            gi_wp2
            go_roundw
            case rel => exact ⟨k + 1, _, l', q2, c2, Z3, by omega, hZ3, by go_num, rfl, HF2.out, hp2.out, HJX.out, SH.out.pick [0, 2] (by decide) rfl, HLX.out⟩
            case measure => simp [intOf]; omega
      · have HX3 := Lib.hid hJx3
        clear hJx3
        gi_wp2
        go_end0
        exact ⟨⟨_, rfl⟩, .inr ⟨_, trivial, HX3.out⟩⟩
end Go.Proofs.YtgnjffnkmdodeaaGreat
/- slices.Repeat of one number. -/
namespace Go.Proofs.YtgnjffnkmdodeaaGreat
open Go Go.RowKit Go.Shelf
set_option maxRecDepth 100000 in
set_option maxHeartbeats 2000000 in
theorem mul64One (n : Nat) (hn : n ≤ 1000) (w : World) : Calls Tryz.prog 97 #[.int .u64 1, .int .u64 n] w fun e w' => e = .returned (.tuple #[.int .u64 0, .int .u64 n]) ∧ Ext w w' := by
  have h1 : bits .and .u64 (n:Int) 4294967295 = (n:Int) := by rw [Mul64.maskN n (by omega)]; omega
  have h2 : (n:Int) / 4294967296 = 0 := by omega
  have h3 : bits .and .u64 (1:Int) 4294967295 = (1:Int) := by decide +kernel
  have h4 : bits .and .u64 (0:Int) 4294967295 = (0:Int) := by decide +kernel
  go_enter Tryz.func97, Tryz.ntmps97
  go_wp2
  go_ret2
  exact ⟨rfl, Below.refl _ _⟩
set_option maxRecDepth 100000 in
set_option maxHeartbeats 2000000 in
theorem mulOne (n : Nat) (hn : n ≤ 1000) (w : World) : Calls Tryz.prog 73 #[.int .u64 1, .int .u64 n] w fun e w' => e = .returned (.tuple #[.int .u64 0, .int .u64 n]) ∧ Ext w w' := by
  have H := Lib.hid (fun W => mul64One n hn W)
  go_enter Tryz.func73, Tryz.ntmps73
  go_wp2_with (go_at_call 97; go_must (refine (H.out _).mono ?_; rintro e w1 ⟨rfl, hb⟩; have HB := Lib.hid hb; clear hb))
  go_ret2
  exact ⟨rfl, HB.out⟩
/-- so many are laid, the rest is 0 -/
def rowR (n k : Nat) : List Value := encI (List.replicate k (-1) ++ List.replicate (n - k) 0)
theorem rowR_len {n k : Nat} (h : k ≤ n) : (rowR n k).length = n := by simp [rowR, encI]; omega
theorem rowR_at {n k j : Nat} (h : j < k) : (rowR n k)[j]? = some (.int .i64 (-1)) := by
  have e : rowR n k = List.replicate k (.int .i64 (-1)) ++ List.replicate (n - k) (.int .i64 0) := by simp [rowR, encI]
  rw [e, List.getElem?_append_left (by simpa using h)]
  simp [h]
theorem rowR_splice {n k m : Nat} (h : k + m ≤ n) : splice (rowR n k) k (encI (List.replicate m (-1))) = rowR n (k + m) := by
  have e : List.replicate (n - k) (0 : Int) = List.replicate m 0 ++ List.replicate (n - (k + m)) 0 := by
    rw [List.replicate_append_replicate]; congr 1; omega
  have e2 : List.replicate (k + m) (Value.int .i64 (-1)) = List.replicate k (.int .i64 (-1)) ++ List.replicate m (.int .i64 (-1)) := List.replicate_append_replicate.symm
  unfold splice rowR
  rw [e]
  simp [encI, List.take_append, List.drop_append]
  rw [e2, List.append_assoc]
theorem own_blk {w : World} {base : Nat} {e : TypeId} {q : Option Addr} {n : Nat} {xs : List Value} (h : w.ownsRow base e 1 (.slice q n n) n xs) (hn : 0 < n) : ∃ g, q = some ⟨g, 0, none⟩ ∧ base ≤ g ∧ Blk w g e xs.toArray := by
  rcases h.2 with ⟨h1, h2⟩ | ⟨g, cap, cur, h1, h2, h3, h4, h5, h6, h7⟩
  · omega
  · injection h1 with h1 _ h8
    subst h8
    refine ⟨g, h1, h2, ?_⟩
    have h9 : cur.toList = xs := by rw [← h7, List.take_of_length_le (by rw [Array.length_toList, h6]; exact Nat.le_refl _)]
    unfold Blk
    rw [h3, ← h9]
theorem blk_own {w : World} {base g : Nat} {e : TypeId} {n : Nat} {xs : List Value} (h : Blk w g e xs.toArray) (hb : base ≤ g) (hm : n ≤ maxLen) (hl : xs.length = n) : w.ownsRow base e 1 (.slice (some ⟨g, 0, none⟩) n n) n xs :=
  ⟨by simpa using hl, .inr ⟨g, n, xs.toArray, rfl, hb, h, Nat.le_refl _, hm, by simpa using hl, by rw [List.take_of_length_le (by simp [hl])]⟩⟩
theorem sizeI1 : (Tryz.prog.info? 3).map (·.size) = some 1 := by kernel_rfl
/-- a copy of so many of them -/
theorem wp_copyR {w0 w : World} {ops : Array Oper} {rest : List Oper} {o : Oper} {a : Act} {Q : Exit → Act → World → Prop} (hgd : o.guard = none) (d s : Operand)
    (ho : o.op = .call { callee := .builtin .copy, args := #[d, s], argTypes := #[22, 22] }) {n k m g dc sl sc : Nat} {dp sp : Option Addr} (hd : a.eval d = .slice dp (n - k) dc) (hs : a.eval s = .slice sp sl sc)
    (hm : m = Nat.min sl (n - k)) (hk : k ≤ n) (hdp : 0 < m → dp = some ⟨g, k, none⟩) (hsp : 0 < m → ∃ ad, sp = some ad ∧ ∀ j, j < m → w.cell? (ad.add j) = some (.int .i64 (-1)))
    (HB : Blk w g 3 (rowR n k).toArray) (HE : Ext w0 w) (hg : w0.heap.size ≤ g)
    (h : ∀ w', Blk w' g 3 (rowR n (k + m)).toArray → Ext w0 w' → wpList Tryz.prog ops Q rest (a.put o.dst (.int .i64 m)) w') : wpList Tryz.prog ops Q (o :: rest) a w := by
  have hmn : k + m ≤ n := by
    have h0 : m ≤ n - k := hm ▸ Nat.min_le_right _ _
    omega
  have hl : (encI (List.replicate m (-1))).length = m := by simp [encI]
  refine wpList_copy_splice hgd d s 22 22 ho 3 Tryz.underlying22 sizeI1 dp sp (n - k) dc sl sc hd hs g k (rowR n k) 3 HB (encI (List.replicate m (-1))) (by rw [hl]; exact hm) ?_ (by rw [rowR_len hk, hl]; exact hmn) ?_ w0.heap.size w0 HE hg ?_
  · rw [hl]
    intro hm0
    obtain ⟨ad, h1, h2⟩ := hsp hm0
    refine ⟨hdp hm0, ad, h1, fun j v hj => ?_⟩
    have hj' : j < m := by have := (List.getElem?_eq_some_iff.1 hj).1; rw [hl] at this; exact this
    rw [h2 j hj']
    simp [encI, hj'] at hj
    rw [← hj]
  · intro v hv
    simp [encI] at hv
    rw [hv.2]; rfl
  · intro w' h1 h2
    rw [rowR_splice hmn] at h1
    have := h w' h1.out h2
    rw [hl]; exact this
theorem one_src {w : World} {p : Option Addr} (h : Rd w 1 p 1 (encI [-1])) : ∃ ad, p = some ad ∧ ∀ j, j < 1 → w.cell? (ad.add j) = some (.int .i64 (-1)) := by
  rcases h.ptr with h0 | ⟨b, o, rfl⟩
  · omega
  · refine ⟨_, rfl, fun j hj => ?_⟩
    obtain rfl : j = 0 := by omega
    exact h.cI (k := 0) (by omega)
theorem row_src {w : World} {g n k m : Nat} (h : Blk w g 3 (rowR n k).toArray) (hm : m ≤ k) : ∃ ad, (some ⟨g, 0, none⟩ : Option Addr) = some ad ∧ ∀ j, j < m → w.cell? (ad.add j) = some (.int .i64 (-1)) := by
  refine ⟨_, rfl, fun j hj => ?_⟩
  have := h.cell j
  rw [List.getElem?_toArray, rowR_at (by omega)] at this
  simpa [Addr.add_lit] using this
theorem copy_run {W : World} {g n k m : Nat} (hB : Blk W g 3 (rowR n k).toArray) (hk1 : 1 ≤ k) (hkn : k < n) (hm : m = Nat.min k (n - k)) :
    (Builtin.copy_ #[22, 22] 3 #[.slice (cutp (some ⟨g, 0, none⟩) n k 1) (n - k) (n - k), .slice (cutp (some ⟨g, 0, none⟩) n 0 1) k n]).run Tryz.prog W = .ok (.int .i64 m) (W.setRow g (rowR n (k + m)).toArray) := by
  have hmn : m ≤ n - k := hm ▸ Nat.min_le_right _ _
  have hmk : m ≤ k := hm ▸ Nat.min_le_left _ _
  have e1 : cutp (some ⟨g, 0, none⟩) n k 1 = some ⟨g, k, none⟩ := by unfold cutp; rw [if_neg (by omega)]; simp [Addr.add_lit]
  have e2 : cutp (some ⟨g, 0, none⟩) n 0 1 = some ⟨g, 0, none⟩ := by unfold cutp; rw [if_neg (by omega)]; simp [Addr.add_lit]
  have hl : (encI (List.replicate m (-1))).length = m := by simp [encI]
  rw [e1, e2]
  have h := run_copy_row (P := Tryz.prog) W 22 22 3 3 g k (n - k) (n - k) ⟨g, 0, none⟩ k n (rowR n k).toArray 3 (encI (List.replicate m (-1))) Tryz.underlying22 sizeI1 hB (by rw [hl]; exact hm) (fun j v hj => by
    have hj' : j < m := by have := (List.getElem?_eq_some_iff.1 hj).1; rw [hl] at this; exact this
    have h1 := hB.cell j
    rw [List.getElem?_toArray, rowR_at (by omega)] at h1
    simp [encI, hj'] at hj
    rw [← hj]
    simpa [Addr.add_lit] using h1) (by rw [hl]; simp [rowR_len (Nat.le_of_lt hkn)]; omega) (by intro v hv; simp [encI] at hv; rw [hv.2]; rfl)
  rw [h, hl]
  have e3 : (rowR n k).toArray.toList.take k ++ (encI (List.replicate m (-1)) ++ (rowR n k).toArray.toList.drop (k + m)) = rowR n (k + m) := by
    have := rowR_splice (n := n) (k := k) (m := m) (by omega)
    unfold splice at this
    rw [hl] at this
    exact this
  rw [List.append_assoc, e3]; rfl
set_option maxRecDepth 100000 in
set_option maxHeartbeats 4000000 in
theorem repeatG (n : Nat) (h1 : 1 ≤ n) (hn : n ≤ 200) (p : Option Addr) (c : Nat) (w : World) (hx : Rd w 1 p 1 (encI [-1])) :
    Calls Tryz.prog 50 #[.slice p 1 c, .int .i64 n] w fun e w' => ∃ q, e = .returned (.slice q n n) ∧ Sep w w' [.own 3 1 q n n (encI (List.replicate n (-1)))] := by
  obtain ⟨i0, hi0, hz0, hz1, hz2⟩ := info_parts infI
  have HM := Lib.hid (fun W => mulOne n (by omega) W)
  have d1 : decide ((n:Int) < 0) = false := by simp
  have d2 : decide ((9223372036854775807:Int) < n) = false := by simp; omega
  go_enter Tryz.func50, Tryz.ntmps50
  go_wp2_with (first
    | (at_make; go_must (refine wpList_make_sep rfl _ _ _ rfl 3 i0 _ 1 Tryz.underlying22 hi0 hz0 hz1 (n:Int) n rfl rfl rfl (by rw [hz2]; omega) (by unfold maxLen; omega) S1.out ?_; intro w2 S'; rw [made_encI] at S'; have S2 := Lib.hid S'; clear S'; obtain ⟨g, hq, hg, hB⟩ := own_blk (S2.out.own 0 rfl) (by omega); rw [hq]; have HB : Hid (Blk w2 g 3 (rowR n 0).toArray) := hB; have HE := Lib.hid S2.out.ext; have HX := Lib.hid (hx.ext S2.out.ext); clear hq hB S2 S1))
    | (have _t := HB; with_reducible show wpList _ _ _ (⟨some 33, _, _, _, _, _⟩ :: _) _ _; go_must (refine wp_copyR rfl (.tmp 31) (.tmp 32) rfl (n := n) (k := 0) (m := 1) (g := g) (dp := some ⟨g, 0, none⟩) (sp := p) (sl := 1) (sc := c) (dc := n) rfl rfl (by show 1 = min 1 (n - 0); omega) (Nat.zero_le _) (fun _ => rfl) (fun _ => one_src HX.out) HB.out HE.out hg ?_; intro w3 h3 h4; rw [Nat.zero_add] at h3; have HB3 := Lib.hid h3; have HE3 := Lib.hid h4; clear h3 h4))
    | (go_at_call 73; go_must (refine (HM.out _).mono ?_; rintro e w1 ⟨rfl, hb⟩; have S1 := Lib.hid ((Sep.start w).call hb); clear hb)))
  go_loopg [8] n (fun gg v wr => ∃ k : Nat, 1 ≤ k ∧ k ≤ n ∧ n ≤ k + gg ∧ v = .int .i64 k ∧ Hid (Blk wr g 3 (rowR n k).toArray) ∧ Ext w wr)
  case atStart => exact ⟨1, Nat.le_refl _, h1, by omega, rfl, HB3.out, HE3.out⟩
  case round =>
    clear HB3 HE3
    obtain ⟨k, hk1, hk, hgg, rfl, HBk, hE⟩ := hrel
    have HE := Lib.hid hE
    clear hE
    by_cases hlt : k < n
    · have d3 : (k:Int) < n := by omega
      have d4 : (0:Int) ≤ k := by omega
      have d5 : (k:Int) ≤ n := by omega
      obtain ⟨m, hm⟩ : ∃ m, m = Nat.min k (n - k) := ⟨_, rfl⟩
      have hm1 : 1 ≤ m := by rw [hm]; show 1 ≤ min k (n - k); omega
      have hm2 : k + m ≤ n := by
        have h0 : m ≤ n - k := hm ▸ Nat.min_le_right _ _
        omega
      have hrun := copy_run (W := wr.drew) HBk.out hk1 hlt hm
      have HB5 : Hid (Blk (wr.drew.setRow g (rowR n (k + m)).toArray) g 3 (rowR n (k + m)).toArray) := setRow_heap wr.drew g _ _ 3 _ HBk.out
      have HE5 : Hid (Ext w (wr.drew.setRow g (rowR n (k + m)).toArray)) := below_setRow (Below.drew HE.out) hg _
      have hwr : IntKind.i64.wrap ((k:Int) + (m:Int)) = ((k + m : Nat) : Int) := by
        rw [Int.natCast_add]
        rw [IntKind.wrap_i64]; omega
      clear hm
      go_wp2
      go_region_with fail
      go_wp2
      go_roundg (gk - m)
      case measure => omega
      case rel => exact ⟨k + m, by omega, by omega, by omega, by first | rfl | (rw [hwr]) | go_num, HB5.out, HE5.out⟩
    · obtain rfl : n = k := by omega
      have e : rowR n n = encI (List.replicate n (-1)) := by unfold rowR; rw [Nat.sub_self, List.replicate_zero, List.append_nil]
      have HBn := HBk.out
      rw [e] at HBn
      have HBn' := Lib.hid HBn
      clear HBn e
      go_wp2
      go_ret
      exact ⟨_, rfl, Sep.of_own HE.out (blk_own (n := n) HBn'.out hg (by unfold maxLen; omega) (by simp [encI]))⟩
end Go.Proofs.YtgnjffnkmdodeaaGreat
/- The program's levels (chapter 7): Levels. -/
namespace Go.Proofs.YtgnjffnkmdodeaaGreat
open Go Go.RowKit Go.Shelf Go.Lib
attribute [local go_sem] Oper.semAt_some
theorem levC_open {ck : Bool} {O : List Int} {s : Int} : openC ck O [s] = levC ck O s := by
  unfold openC levC
  cases ck with
  | false => rfl
  | true =>
    rw [if_pos rfl, if_pos rfl]
    by_cases h : 0 ≤ s ∧ s < (O.length : Int) - 1
    · rw [if_pos h, if_pos (by simp [h.1, h.2])]
    · rw [if_neg h, if_neg (by simp; omega)]
/-- what is known of levels when these have been gone through -/
def levRow (f : Nat → Int) (n : Nat) (ks : List Nat) : List Int := (List.range n).map fun v => if 0 ≤ f v ∧ (f v).toNat ∈ ks then f v else -1
theorem levRow_len (f : Nat → Int) (n : Nat) (ks : List Nat) : (levRow f n ks).length = n := by simp [levRow]
theorem levRow_nth {f : Nat → Int} {n : Nat} {ks : List Nat} {v : Nat} (hv : v < n) : nth (levRow f n ks) v = if 0 ≤ f v ∧ (f v).toNat ∈ ks then f v else -1 := by
  rw [nth_eq (by rw [levRow_len]; exact hv)]; simp [levRow]
theorem levRow_nil (f : Nat → Int) (n : Nat) : levRow f n [] = List.replicate n (-1) := by
  apply List.ext_getElem
  · simp [levRow]
  · intro j h1 h2; simp [levRow]
theorem levRow_step {f : Nat → Int} {n : Nat} {ks : List Nat} {k : Nat} {F : List Int} (hF : IsFront f n k F) : tkR (k : Int) F (levRow f n ks) = levRow f n (ks ++ [k]) := by
  apply List.ext_getElem
  · rw [tkR_len, levRow_len, levRow_len]
  · intro v h1 h2
    have hv : v < n := by rw [levRow_len] at h2; exact h2
    rw [← nth_eq h1, ← nth_eq h2, tkR_nth (fun x hx => by have := (hF.2 x).1 hx; rw [levRow_len]; omega), levRow_nth hv, levRow_nth hv]
    by_cases hm : (v : Int) ∈ F
    · have := (hF.2 _).1 hm
      rw [Int.toNat_natCast] at this
      rw [if_pos hm, if_pos ⟨by omega, by rw [List.mem_append]; right; simp; omega⟩]; omega
    · rw [if_neg hm]
      have hne : f v ≠ k := fun e => hm ((hF.2 _).2 ⟨by omega, by omega, by rw [Int.toNat_natCast]; exact e⟩)
      by_cases h0 : 0 ≤ f v
      · have e : ((f v).toNat ∈ ks ++ [k]) ↔ (f v).toNat ∈ ks := by
          rw [List.mem_append, List.mem_singleton]
          constructor
          · rintro (h | h)
            · exact h
            · omega
          · exact .inl
        simp only [e]
      · rw [if_neg (fun h => h0 h.1), if_neg (fun h => h0 h.1)]
theorem levRow_all {nx : Nat → List Int} {n s m : Nat} (hs : s < n) (hno : hasL n (lev nx n s) m = false) : levRow (lev nx n s) n (List.range m) = (List.range n).map fun v => lev nx n s v := by
  unfold levRow
  apply List.map_congr_left
  intro v hv
  rw [List.mem_range] at hv
  rcases lev_cases (nx := nx) hs hv with ⟨h1, _⟩ | ⟨j, hj, h1, _⟩
  · rw [if_neg (by omega), h1]
  · by_cases hjm : j < m
    · rw [if_pos ⟨by omega, by rw [List.mem_range]; omega⟩]
    · have := has_below hs (k := j) (j := m) (by omega) (hasL_iff.2 ⟨v, hv, h1⟩)
      rw [hno] at this; cases this
theorem cell_turn {W W' : World} {row : Option Nat} {p : Addr} {v : Value} (h : W.cell? p = some v) (hg : W.grownBy W' row) (hr : ∀ r, row = some r → ∃ o : Obj, W.heap[r]? = some o ∧ o.isCells = false) : W'.cell? p = some v := by
  have hlt := World.block_lt_of_cell? W _ h
  have e : W'.heap[p.block]? = W.heap[p.block]? := hg.block p.block hlt fun e => by
    obtain ⟨o, h1, h2⟩ := hr p.block e.symm
    unfold World.cell? at h
    rw [h1] at h
    cases o <;> simp_all [Obj.isCells]
  unfold World.cell? at *
  rw [e]; exact h
theorem ylA_own {nx : Nat → List Int} {n s B C : Nat} : OwnFrom C (ylA B : YlOf nx n s → World → Prop) := fun x W W' row h hg hr =>
  ⟨⟨h.1.len, h.1.ptr, h.1.small, fun j hj => cell_turn (h.1.cells j hj) hg fun r e => (hr r e).2⟩, h.2⟩
theorem kpF_b {w4 : World} {n₀ b1 b2 b3 : Nat} (hn : n₀ ≤ w4.heap.size) (h1 : b1 < w4.heap.size) (h2 : b2 < w4.heap.size) (h3 : b3 < w4.heap.size) (W : World) (l : Nat) (o o' : Obj) (hl : w4.heap.size ≤ l) (h : W.heap[l]? = some o) (hc : o.isCells = false) (hw : o.isWalk = false) : KpF n₀ w4.heap.size b1 b2 b3 W (W.putObj l o') :=
  ⟨belowK_b hn W l o o' hl h hc hw, World.putObj_heap_other (by omega), World.putObj_heap_other (by omega), World.putObj_heap_other (by omega), fun k o2 hk h2 h3 => by
    by_cases e : k = l
    · subst e; rw [h] at h2; cases h2; rw [hc] at h3; cases h3
    · rw [World.putObj_heap_other (by omega)]; exact h2⟩
set_option maxRecDepth 100000 in
set_option maxHeartbeats 4000000 in
theorem LevelsG_no (po : Option Addr) (no co : Nat) (O : List Int) (pt : Option Addr) (nt ct : Nat) (T : List Int) (pr : Option Addr) (nr cr : Nat) (R : List Int) (pv : Option Addr) (nv cv : Nat) (V : List Int) (s : Int) (back : Bool) (w : World) (hO : Rd w 1 po no (encI O)) (hT : Rd w 1 pt nt (encI T)) (hR : Rd w 1 pr nr (encI R)) (hV : Rd w 1 pv nv (encI V)) (hct : nt ≤ ct) (hcv : nv ≤ cv) (hc : levC (checkR O T R V) O s ≠ 0) :
    Calls Tryz.prog 23 #[.agg #[.slice po no co, .slice pt nt ct, .slice pr nr cr, .slice pv nv cv], .int .i64 s, .bool back] w fun e w' => e = .returned (.tuple #[.slice none 0 0, .int .i64 (levC (checkR O T R V) O s)]) ∧ Ext w w' := by
  have S0 := Lib.hid (((Sep.start w).al #[.slice po no co, .slice pt nt ct, .slice pr nr cr, .slice pv nv cv] 24 w.heap.size rfl).al #[.int .i64 s] 3 (w.heap.size + 1) (by simp))
  have HOp := Lib.hid (fun W1 p c (h : Ext w W1) (hl : Rd W1 1 p 1 (encI [s])) => openL po no co O pt nt ct T pr nr cr R pv nv cv V p 1 c [s] W1 (hO.ext h) (hT.ext h) (hR.ext h) (hV.ext h) hct hcv hl)
  rw [levC_open] at HOp
  generalize levC (checkR O T R V) O s = cc at *
  have hc0 : (cc != 0) = true := by simpa using hc
  clear hO hT hR hV hct hcv hc
  go_enter Tryz.func23, Tryz.ntmps23
  go_wp2_with (go_at_call 49; go_must (refine (HOp.out _ _ _ S0.out.ext ((S0.out.blk 0 rfl).rd rfl rfl (by decide))).mono ?_; rintro e w1 ⟨rfl, hb⟩; have S1 := Lib.hid (S0.out.call hb); clear hb))
  go_ret2
  exact ⟨rfl, (S1.out.al #[.slice po no co, .slice pt nt ct, .slice pr nr cr, .slice pv nv cv] 79 w1.heap.size rfl).ext⟩
theorem cell_eq {W W' : World} {p : Addr} (h : W'.heap[p.block]? = W.heap[p.block]?) : W'.cell? p = W.cell? p := by unfold World.cell?; rw [h]
set_option maxRecDepth 100000 in
set_option maxHeartbeats 16000000 in
theorem LevelsG_out (po : Option Addr) (no co : Nat) (O : List Int) (pt : Option Addr) (nt ct : Nat) (T : List Int) (pr : Option Addr) (nr cr : Nat) (R : List Int) (pv : Option Addr) (nv cv : Nat) (V : List Int) (n s : Nat) (w : World) (hO : Rd w 1 po no (encI O)) (hT : Rd w 1 pt nt (encI T)) (hR : Rd w 1 pr nr (encI R)) (hV : Rd w 1 pv nv (encI V)) (hct : nt ≤ ct) (hcv : nv ≤ cv) (hck : checkR O T R V = true) (hno : O.length = n + 1) (hs : s < n) :
    Calls Tryz.prog 23 #[.agg #[.slice po no co, .slice pt nt ct, .slice pr nr cr, .slice pv nv cv], .int .i64 s, .bool false] w fun e w' => ∃ q c, e = .returned (.tuple #[.slice q n c, .int .i64 0]) ∧ Sep w w' [.own 3 1 q n c (encI ((List.range n).map fun v => lev (rowL O T) n s v))] := by
  have S0 := Lib.hid (((Sep.start w).al #[.slice po no co, .slice pt nt ct, .slice pr nr cr, .slice pv nv cv] 24 w.heap.size rfl).al #[.int .i64 s] 3 (w.heap.size + 1) (by simp))
  have HOp := Lib.hid (fun W1 p c (h : Ext w W1) (hl : Rd W1 1 p 1 (encI [(s:Int)])) => openL po no co O pt nt ct T pr nr cr R pv nv cv V p 1 c [(s:Int)] W1 (hO.ext h) (hT.ext h) (hR.ext h) (hV.ext h) hct hcv hl)
  have hl0 : levC (checkR O T R V) O s = 0 := by unfold levC; rw [if_pos hck, if_pos (by omega)]
  rw [levC_open, hl0] at HOp
  obtain ⟨e1, e2, e3, e4⟩ := checkR_half hck
  have r := offB_parts (halfB_off e3)
  have hn : n ≤ 200 := by omega
  have hin : InN (rowL O T) n := by have := nxR_in hck false; rw [hno] at this; exact this
  have l1 := hO.nI
  have hnn : no = n + 1 := by omega
  have hA0 : 0 < no → (adr po 0).block < w.heap.size := fun h => hO.lt (by omega)
  have hB0 : 0 < nt → (adr pt 0).block < w.heap.size := fun h => hT.lt (by omega)
  have HNX : Hid (∀ w4, Ext w w4 → ∀ k, k < n → ∃ q c, ∀ W, Below w.heap.size w4 W → Rd W 1 q ((rowL O T) k).length (encI ((rowL O T) k)) ∧ Calls Tryz.prog 82 #[.agg #[.slice po no co, .slice pt nt ct, .slice pr nr cr, .slice pv nv cv], .int .i64 k] W fun e w' => e = .returned (.slice q ((rowL O T) k).length c) ∧ Ext W w') := fun w4 h4 k hk => by
    have hok := offOk_of (halfB_off e3)
    have hkl : k + 1 < O.length := by omega
    refine ⟨cutp pt ct (nth O k).toNat 1, ct - (nth O k).toNat, fun W hW => ?_⟩
    have hx := (hO.ext h4).below hW (by simpa using hA0)
    have hy := (hT.ext h4).below hW (by simpa using hB0)
    refine ⟨?_, waysOut po no co O pt nt ct T pr nr cr R pv nv cv V k W hx hy hok hct hkl⟩
    have := hy.rowOf hok hct hkl
    rw [← rowL_len hok hkl] at this
    exact this
  have HIN := Lib.hid hin
  have HSZ := Lib.hid (fun W => waysSize po (n + 1) co pt nt ct pr nr cr pv nv cv W (by omega) (by omega))
  have HFR := Lib.hid (fun W => frontsG po (n + 1) co pt nt ct pr nr cr pv nv cv s false W)
  clear hO hT hR hV hct hcv hck hno hl0 e1 e2 e3 e4 r l1 hA0 hB0 hin
  subst hnn
  generalize rowL O T = nx at *
  refine (callsIn_wide (n := 9)).1 ?_
  refine callsIn_of_wp_marks Tryz.func23 rfl trivial ?_ rfl
  simp only [Tryz.ntmps23, List.size_toArray, List.length_cons, List.length_nil, Nat.reduceAdd, Nat.reduceSub, Array.replicate_succ, Array.replicate_zero, List.push_toArray, List.append_toArray, List.nil_append, List.cons_append]
  refine wpIn_wide.2 ?_
  go_wp2_with (first
    | (go_at_call 52; go_must (refine (HFR.out _).mono ?_; rintro e w4 ⟨b1, b2, b3, rfl, Z⟩; have S4 := Lib.hid (S3.out.comp Z); clear Z))
    | (go_at_call 50; go_must (refine (repeatG n (by omega) hn _ _ _ ((S2.out.blk 0 rfl).rd rfl rfl (by decide))).mono ?_; rintro e w3 ⟨q, rfl, Z⟩; have S3 := Lib.hid ((S2.out.comp Z).al #[.slice q n n] 22 w3.heap.size rfl); have yz := (S3.out.blk 3 rfl).lt; have y0 := (S3.out.blk 3 rfl).cell 0; have y1 := (S3.out.blk 3 rfl).cell 1; have y2 := (S3.out.blk 3 rfl).cell 2; have y3 := (S3.out.blk 3 rfl).cell 3; clear Z))
    | (go_at_call 51; go_must (refine (HSZ.out _).mono ?_; rintro e w2 ⟨rfl, hb⟩; have S2 := Lib.hid (((S1.out.al #[.slice po (n + 1) co, .slice pt nt ct, .slice pr nr cr, .slice pv nv cv] 79 w1.heap.size rfl).al #[.int .i64 (-1)] 3 (w1.heap.size + 1) (by simp)).call hb); clear hb))
    | (go_at_call 49; go_must (refine (HOp.out _ _ _ S0.out.ext ((S0.out.blk 0 rfl).rd rfl rfl (by decide))).mono ?_; rintro e w1 ⟨rfl, hb⟩; have S1 := Lib.hid (S0.out.call hb); clear hb)))
  clear S0 S1 S2 S3 y0 y1 y2 y3 yz
  generalize w3.heap.size = g at *
  have S5 := Lib.hid (S4.out.pick [0, 1, 2, 3, 4] (by decide) rfl : Sep w w4 [.blk b3 68 #[.func (.func 82) #[.agg #[.slice po (n + 1) co, .slice pt nt ct, .slice pr nr cr, .slice pv nv cv]] #[]], .blk b2 3 #[.int .i64 s], .blk b1 79 #[.slice po (n + 1) co, .slice pt nt ct, .slice pr nr cr, .slice pv nv cv], .blk g 22 #[.slice q n n], .own 3 1 q n n (encI (List.replicate n (-1)))])
  rw [← levRow_nil (lev nx n s) n] at S5
  clear S4 HOp HSZ HFR
  refine wpIn_wide.1 (wpIn_rangeFunc_told (F := Fence.wide) (n := 9) rfl (by omega) (gf := 74) (lb := #[.pointer (some ⟨b1, 0, none⟩), .pointer (some ⟨b2, 0, none⟩), .pointer (some ⟨b3, 0, none⟩)]) rfl trivial (enters_of Tryz.func74 (by kernel_rfl) rfl)
    (fronts_out 8 (by omega) po (n + 1) co pt nt ct pr nr cr pv nv cv b1 b2 b3 w.heap.size n s nx w4 S5.out.ext.size (S5.out.blk 2 rfl) (S5.out.blk 1 rfl) (S5.out.blk 0 rfl) hs hn rfl HIN.out (HNX.out w4 S5.out.ext))
    (fun h k => KpF.trans h k) (kpF_b S5.out.ext.size (S5.out.blk 2 rfl).lt (S5.out.blk 1 rfl).lt (S5.out.blk 0 rfl).lt) (Below.refl _ _) (fun _ => rfl)
    (fun pre W => Sep w W [.blk b3 68 #[.func (.func 82) #[.agg #[.slice po (n + 1) co, .slice pt nt ct, .slice pr nr cr, .slice pv nv cv]] #[]], .blk b2 3 #[.int .i64 s], .blk b1 79 #[.slice po (n + 1) co, .slice pt nt ct, .slice pr nr cr, .slice pv nv cv], .blk g 22 #[.slice q n n], .own 3 1 q n n (encI (levRow (lev nx n s) n (pre.map (·.1.k))))])
    (fun _ _ _ => False)
    ?hI (fun _ _ _ _ _ _ _ _ h => h) ylA_own S5.out ?a1 ?assign ?body ?done (fun D c pre W _ _ h _ => h.elim))
  case hI =>
    intro pre Z W W' hZ h1 h2 S
    refine S.far S5.out.ext.size hZ h1 h2 fun p hp k hk => ?_
    simp only [List.mem_cons, List.not_mem_nil, or_false] at hp
    rcases hp with rfl | rfl | rfl | rfl | rfl
    · exact S5.out.lt (List.mem_of_getElem? (i := 0) rfl) hk
    · exact S5.out.lt (List.mem_of_getElem? (i := 1) rfl) hk
    · exact S5.out.lt (List.mem_of_getElem? (i := 2) rfl) hk
    · exact S5.out.lt (List.mem_of_getElem? (i := 3) rfl) hk
    · exact S5.out.lt (List.mem_of_getElem? (i := 4) rfl) hk
  case assign =>
    intro l x W K hK
    simp only [ylE]
    gi_wp2
    exact hK
  case body =>
    rintro l pre ⟨⟨k, F, q', c'⟩, hF, lf⟩ W S ⟨hR, hBk⟩ hlen
    have hRd : Rd W 1 q' F.length (encI F) := hR
    have hblk : w4.heap.size ≤ (adr q' 0).block := hBk
    have HF := Lib.hid (show IsFront (lev nx n s) n k F from hF)
    have bF := Lib.hid (front_bd8 HF.out)
    have hF200 : F.length ≤ 200 := by have := bF.out.2; omega
    have pF := hRd.ptr
    have HR := Lib.hid hRd
    have hqb := S5.out.blt 4 rfl (by omega)
    have HS := Lib.hid S
    obtain ⟨X, hX⟩ : ∃ X, X = levRow (lev nx n s) n (pre.map (·.1.k)) := ⟨_, rfl⟩
    have hXl : X.length = n := by rw [hX, levRow_len]
    have HX : Hid (tkR (k:Int) F X = levRow (lev nx n s) n ((pre ++ [(⟨⟨k, F, q', c'⟩, hF, lf⟩ : YlOf nx n s)]).map (·.1.k))) := by
      unfold Hid; rw [List.map_append, hX]; exact levRow_step HF.out
    rw [← hX] at HS
    generalize (pre ++ [(⟨⟨k, F, q', c'⟩, hF, lf⟩ : YlOf nx n s)]) = pre2 at *
    clear hX S hR hBk hRd hlen
    gi_wp2
    gi_loopw [14, 37] (fun _ v37 wx => ∃ j : Nat, j ≤ F.length ∧ v37 = .int .i64 j ∧ Sep w wx [.blk b3 68 #[.func (.func 82) #[.agg #[.slice po (n + 1) co, .slice pt nt ct, .slice pr nr cr, .slice pv nv cv]] #[]], .blk b2 3 #[.int .i64 s], .blk b1 79 #[.slice po (n + 1) co, .slice pt nt ct, .slice pr nr cr, .slice pv nv cv], .blk g 22 #[.slice q n n], .own 3 1 q n n (encI (tkR (k:Int) (F.take j) X))] ∧ W.heap.size ≤ wx.heap.size ∧ Hid (∀ kk, w4.heap.size ≤ kk → wx.heap[kk]? = W.heap[kk]?)) (fun _ v37 _ => F.length - (intOf v37).toNat)
    case atStart => exact ⟨0, Nat.zero_le _, rfl, HS.out, Nat.le_refl _, fun _ _ => rfl⟩
    case round =>
      obtain ⟨j, hj, rfl, S, hsz, hup⟩ := hrel
      have g0 := (S.blk 3 rfl).cell 0
      have gz := (S.blk 3 rfl).lt
      have pq := (S.rdx 4 rfl).ptr
      by_cases hlj : j < F.length
      · have g1 := HR.out.cI hlj
        rw [← cell_eq (W' := wr) (by rw [adr_block]; exact hup.out _ hblk)] at g1
        obtain ⟨f1, f2⟩ := bF.out.1 _ (nth_mem hlj)
        have hT := tkR_take (c := (k:Int)) (X := X) hlj
        obtain ⟨a, ha⟩ : ∃ a : Nat, nth F j = (a : Int) := ⟨(nth F j).toNat, by omega⟩
        rw [ha] at g1 f1 f2 hT
        rw [Int.toNat_natCast] at hT
        have HT := Lib.hid hT
        have d1 : (0:Int) ≤ j := by omega
        have d2 : (j:Int) < F.length := by omega
        have fz := own_frozen (S.own 4 rfl) (by omega) a
        have cz := own_cell (S.own 4 rfl) (k := a) (by omega)
        have HU : Hid (∀ kk, w4.heap.size ≤ kk → (wr.setCell (adr q a) (.int .i64 k)).heap[kk]? = W.heap[kk]?) := fun kk hk => by
          rw [Below.heap_setCell wr (adr q a) _ kk (by rw [adr_block]; omega)]; exact hup.out kk hk
        have SH := Lib.hid S; clear S
        clear hT ha
        gi_wp2
        go_roundw
        case rel => exact ⟨j + 1, by omega, by go_num, by rw [HT.out, ← encI_set]; exact SH.out.setRow 4 rfl a (by omega) (.int .i64 k), by simpa using hsz, HU.out⟩
        case measure => simp [intOf]; omega
      · obtain rfl : j = F.length := by omega
        rw [List.take_length, HX.out] at S
        have SH := Lib.hid S; clear S
        gi_wp2
        exact ⟨⟨hsz, fun kk o hB ho _ => (hup.out kk hB).trans ho⟩, ⟨⟨SH.out.ext.os.trans HS.out.ext.os.symm, SH.out.ext.tape.trans HS.out.ext.tape.symm, SH.out.ext.output.trans HS.out.ext.output.symm, hsz, fun kk hk => (SH.out.ext.block kk hk).trans (HS.out.ext.block kk hk).symm⟩, (SH.out.blk 2 rfl).trans (HS.out.blk 2 rfl).symm, (SH.out.blk 1 rfl).trans (HS.out.blk 1 rfl).symm, (SH.out.blk 0 rfl).trans (HS.out.blk 0 rfl).symm, fun kk o hB ho _ => (hup.out kk hB).trans ho⟩, SH.out⟩
  case done =>
    rintro D ys W hD hys S hK
    rw [hys.1, levRow_all hs hys.2] at S
    have c4 := (S.blk 3 rfl).cell 0
    have S' := S.putObj (cells_all fun p hp => by
      simp only [List.mem_cons, List.not_mem_nil, or_false] at hp
      rcases hp with rfl | rfl | rfl | rfl | rfl
      · exact .inl ⟨_, _, _, rfl⟩
      · exact .inl ⟨_, _, _, rfl⟩
      · exact .inl ⟨_, _, _, rfl⟩
      · exact .inl ⟨_, _, _, rfl⟩
      · exact .inr ⟨_, _, _, _, _, _, rfl⟩) (.deferred none) (Nat.le_trans S5.out.ext.size hD) hK rfl
    have SH := Lib.hid S; clear S
    have SH' := Lib.hid S'; clear S'
    go_wp2
    refine ⟨by simp, .inl ⟨_, _, rfl, run_takeDeferred hK, ?_⟩⟩
    exact ⟨.tuple #[.slice q n n, .int .i64 0], by simp [results, Tryz.results23, go_sem], q, n, rfl, SH'.out.pick [4] (by decide) rfl⟩
set_option maxRecDepth 100000 in
set_option maxHeartbeats 16000000 in
theorem LevelsG_in (po : Option Addr) (no co : Nat) (O : List Int) (pt : Option Addr) (nt ct : Nat) (T : List Int) (pr : Option Addr) (nr cr : Nat) (R : List Int) (pv : Option Addr) (nv cv : Nat) (V : List Int) (n s : Nat) (w : World) (hO : Rd w 1 po no (encI O)) (hT : Rd w 1 pt nt (encI T)) (hR : Rd w 1 pr nr (encI R)) (hV : Rd w 1 pv nv (encI V)) (hct : nt ≤ ct) (hcv : nv ≤ cv) (hck : checkR O T R V = true) (hno : O.length = n + 1) (hs : s < n) :
    Calls Tryz.prog 23 #[.agg #[.slice po no co, .slice pt nt ct, .slice pr nr cr, .slice pv nv cv], .int .i64 s, .bool true] w fun e w' => ∃ q c, e = .returned (.tuple #[.slice q n c, .int .i64 0]) ∧ Sep w w' [.own 3 1 q n c (encI ((List.range n).map fun v => lev (rowL R V) n s v))] := by
  have S0 := Lib.hid (((Sep.start w).al #[.slice po no co, .slice pt nt ct, .slice pr nr cr, .slice pv nv cv] 24 w.heap.size rfl).al #[.int .i64 s] 3 (w.heap.size + 1) (by simp))
  have HOp := Lib.hid (fun W1 p c (h : Ext w W1) (hl : Rd W1 1 p 1 (encI [(s:Int)])) => openL po no co O pt nt ct T pr nr cr R pv nv cv V p 1 c [(s:Int)] W1 (hO.ext h) (hT.ext h) (hR.ext h) (hV.ext h) hct hcv hl)
  have hl0 : levC (checkR O T R V) O s = 0 := by unfold levC; rw [if_pos hck, if_pos (by omega)]
  rw [levC_open, hl0] at HOp
  obtain ⟨e1, e2, e3, e4⟩ := checkR_half hck
  have r := offB_parts (halfB_off e3)
  have hn : n ≤ 200 := by omega
  have hin : InN (rowL R V) n := by have := nxR_in hck true; rw [hno] at this; exact this
  have l1 := hO.nI
  have hnn : no = n + 1 := by omega
  have hA0 : 0 < nr → (adr pr 0).block < w.heap.size := fun h => hR.lt (by omega)
  have hB0 : 0 < nv → (adr pv 0).block < w.heap.size := fun h => hV.lt (by omega)
  have HNX : Hid (∀ w4, Ext w w4 → ∀ k, k < n → ∃ q c, ∀ W, Below w.heap.size w4 W → Rd W 1 q ((rowL R V) k).length (encI ((rowL R V) k)) ∧ Calls Tryz.prog 81 #[.agg #[.slice po no co, .slice pt nt ct, .slice pr nr cr, .slice pv nv cv], .int .i64 k] W fun e w' => e = .returned (.slice q ((rowL R V) k).length c) ∧ Ext W w') := fun w4 h4 k hk => by
    have hok := offOk_of (halfB_off e4)
    have hkl : k + 1 < R.length := by omega
    refine ⟨cutp pv cv (nth R k).toNat 1, cv - (nth R k).toNat, fun W hW => ?_⟩
    have hx := (hR.ext h4).below hW (by simpa using hA0)
    have hy := (hV.ext h4).below hW (by simpa using hB0)
    refine ⟨?_, waysIn po no co O pt nt ct T pr nr cr R pv nv cv V k W hx hy hok hcv hkl⟩
    have := hy.rowOf hok hcv hkl
    rw [← rowL_len hok hkl] at this
    exact this
  have HIN := Lib.hid hin
  have HSZ := Lib.hid (fun W => waysSize po (n + 1) co pt nt ct pr nr cr pv nv cv W (by omega) (by omega))
  have HFR := Lib.hid (fun W => frontsG po (n + 1) co pt nt ct pr nr cr pv nv cv s true W)
  clear hO hT hR hV hct hcv hck hno hl0 e1 e2 e3 e4 r l1 hA0 hB0 hin
  subst hnn
  generalize rowL R V = nx at *
  refine (callsIn_wide (n := 9)).1 ?_
  refine callsIn_of_wp_marks Tryz.func23 rfl trivial ?_ rfl
  simp only [Tryz.ntmps23, List.size_toArray, List.length_cons, List.length_nil, Nat.reduceAdd, Nat.reduceSub, Array.replicate_succ, Array.replicate_zero, List.push_toArray, List.append_toArray, List.nil_append, List.cons_append]
  refine wpIn_wide.2 ?_
  go_wp2_with (first
    | (go_at_call 52; go_must (refine (HFR.out _).mono ?_; rintro e w4 ⟨b1, b2, b3, rfl, Z⟩; have S4 := Lib.hid (S3.out.comp Z); clear Z))
    | (go_at_call 50; go_must (refine (repeatG n (by omega) hn _ _ _ ((S2.out.blk 0 rfl).rd rfl rfl (by decide))).mono ?_; rintro e w3 ⟨q, rfl, Z⟩; have S3 := Lib.hid ((S2.out.comp Z).al #[.slice q n n] 22 w3.heap.size rfl); have yz := (S3.out.blk 3 rfl).lt; have y0 := (S3.out.blk 3 rfl).cell 0; have y1 := (S3.out.blk 3 rfl).cell 1; have y2 := (S3.out.blk 3 rfl).cell 2; have y3 := (S3.out.blk 3 rfl).cell 3; clear Z))
    | (go_at_call 51; go_must (refine (HSZ.out _).mono ?_; rintro e w2 ⟨rfl, hb⟩; have S2 := Lib.hid (((S1.out.al #[.slice po (n + 1) co, .slice pt nt ct, .slice pr nr cr, .slice pv nv cv] 79 w1.heap.size rfl).al #[.int .i64 (-1)] 3 (w1.heap.size + 1) (by simp)).call hb); clear hb))
    | (go_at_call 49; go_must (refine (HOp.out _ _ _ S0.out.ext ((S0.out.blk 0 rfl).rd rfl rfl (by decide))).mono ?_; rintro e w1 ⟨rfl, hb⟩; have S1 := Lib.hid (S0.out.call hb); clear hb)))
  clear S0 S1 S2 S3 y0 y1 y2 y3 yz
  generalize w3.heap.size = g at *
  have S5 := Lib.hid (S4.out.pick [0, 1, 2, 3, 4] (by decide) rfl : Sep w w4 [.blk b3 68 #[.func (.func 81) #[.agg #[.slice po (n + 1) co, .slice pt nt ct, .slice pr nr cr, .slice pv nv cv]] #[]], .blk b2 3 #[.int .i64 s], .blk b1 79 #[.slice po (n + 1) co, .slice pt nt ct, .slice pr nr cr, .slice pv nv cv], .blk g 22 #[.slice q n n], .own 3 1 q n n (encI (List.replicate n (-1)))])
  rw [← levRow_nil (lev nx n s) n] at S5
  clear S4 HOp HSZ HFR
  refine wpIn_wide.1 (wpIn_rangeFunc_told (F := Fence.wide) (n := 9) rfl (by omega) (gf := 74) (lb := #[.pointer (some ⟨b1, 0, none⟩), .pointer (some ⟨b2, 0, none⟩), .pointer (some ⟨b3, 0, none⟩)]) rfl trivial (enters_of Tryz.func74 (by kernel_rfl) rfl)
    (fronts_in 8 (by omega) po (n + 1) co pt nt ct pr nr cr pv nv cv b1 b2 b3 w.heap.size n s nx w4 S5.out.ext.size (S5.out.blk 2 rfl) (S5.out.blk 1 rfl) (S5.out.blk 0 rfl) hs hn rfl HIN.out (HNX.out w4 S5.out.ext))
    (fun h k => KpF.trans h k) (kpF_b S5.out.ext.size (S5.out.blk 2 rfl).lt (S5.out.blk 1 rfl).lt (S5.out.blk 0 rfl).lt) (Below.refl _ _) (fun _ => rfl)
    (fun pre W => Sep w W [.blk b3 68 #[.func (.func 81) #[.agg #[.slice po (n + 1) co, .slice pt nt ct, .slice pr nr cr, .slice pv nv cv]] #[]], .blk b2 3 #[.int .i64 s], .blk b1 79 #[.slice po (n + 1) co, .slice pt nt ct, .slice pr nr cr, .slice pv nv cv], .blk g 22 #[.slice q n n], .own 3 1 q n n (encI (levRow (lev nx n s) n (pre.map (·.1.k))))])
    (fun _ _ _ => False)
    ?hI (fun _ _ _ _ _ _ _ _ h => h) ylA_own S5.out ?a1 ?assign ?body ?done (fun D c pre W _ _ h _ => h.elim))
  case hI =>
    intro pre Z W W' hZ h1 h2 S
    refine S.far S5.out.ext.size hZ h1 h2 fun p hp k hk => ?_
    simp only [List.mem_cons, List.not_mem_nil, or_false] at hp
    rcases hp with rfl | rfl | rfl | rfl | rfl
    · exact S5.out.lt (List.mem_of_getElem? (i := 0) rfl) hk
    · exact S5.out.lt (List.mem_of_getElem? (i := 1) rfl) hk
    · exact S5.out.lt (List.mem_of_getElem? (i := 2) rfl) hk
    · exact S5.out.lt (List.mem_of_getElem? (i := 3) rfl) hk
    · exact S5.out.lt (List.mem_of_getElem? (i := 4) rfl) hk
  case assign =>
    intro l x W K hK
    simp only [ylE]
    gi_wp2
    exact hK
  case body =>
    rintro l pre ⟨⟨k, F, q', c'⟩, hF, lf⟩ W S ⟨hR, hBk⟩ hlen
    have hRd : Rd W 1 q' F.length (encI F) := hR
    have hblk : w4.heap.size ≤ (adr q' 0).block := hBk
    have HF := Lib.hid (show IsFront (lev nx n s) n k F from hF)
    have bF := Lib.hid (front_bd8 HF.out)
    have hF200 : F.length ≤ 200 := by have := bF.out.2; omega
    have pF := hRd.ptr
    have HR := Lib.hid hRd
    have hqb := S5.out.blt 4 rfl (by omega)
    have HS := Lib.hid S
    obtain ⟨X, hX⟩ : ∃ X, X = levRow (lev nx n s) n (pre.map (·.1.k)) := ⟨_, rfl⟩
    have hXl : X.length = n := by rw [hX, levRow_len]
    have HX : Hid (tkR (k:Int) F X = levRow (lev nx n s) n ((pre ++ [(⟨⟨k, F, q', c'⟩, hF, lf⟩ : YlOf nx n s)]).map (·.1.k))) := by
      unfold Hid; rw [List.map_append, hX]; exact levRow_step HF.out
    rw [← hX] at HS
    generalize (pre ++ [(⟨⟨k, F, q', c'⟩, hF, lf⟩ : YlOf nx n s)]) = pre2 at *
    clear hX S hR hBk hRd hlen
    gi_wp2
    gi_loopw [14, 37] (fun _ v37 wx => ∃ j : Nat, j ≤ F.length ∧ v37 = .int .i64 j ∧ Sep w wx [.blk b3 68 #[.func (.func 81) #[.agg #[.slice po (n + 1) co, .slice pt nt ct, .slice pr nr cr, .slice pv nv cv]] #[]], .blk b2 3 #[.int .i64 s], .blk b1 79 #[.slice po (n + 1) co, .slice pt nt ct, .slice pr nr cr, .slice pv nv cv], .blk g 22 #[.slice q n n], .own 3 1 q n n (encI (tkR (k:Int) (F.take j) X))] ∧ W.heap.size ≤ wx.heap.size ∧ Hid (∀ kk, w4.heap.size ≤ kk → wx.heap[kk]? = W.heap[kk]?)) (fun _ v37 _ => F.length - (intOf v37).toNat)
    case atStart => exact ⟨0, Nat.zero_le _, rfl, HS.out, Nat.le_refl _, fun _ _ => rfl⟩
    case round =>
      obtain ⟨j, hj, rfl, S, hsz, hup⟩ := hrel
      have g0 := (S.blk 3 rfl).cell 0
      have gz := (S.blk 3 rfl).lt
      have pq := (S.rdx 4 rfl).ptr
      by_cases hlj : j < F.length
      · have g1 := HR.out.cI hlj
        rw [← cell_eq (W' := wr) (by rw [adr_block]; exact hup.out _ hblk)] at g1
        obtain ⟨f1, f2⟩ := bF.out.1 _ (nth_mem hlj)
        have hT := tkR_take (c := (k:Int)) (X := X) hlj
        obtain ⟨a, ha⟩ : ∃ a : Nat, nth F j = (a : Int) := ⟨(nth F j).toNat, by omega⟩
        rw [ha] at g1 f1 f2 hT
        rw [Int.toNat_natCast] at hT
        have HT := Lib.hid hT
        have d1 : (0:Int) ≤ j := by omega
        have d2 : (j:Int) < F.length := by omega
        have fz := own_frozen (S.own 4 rfl) (by omega) a
        have cz := own_cell (S.own 4 rfl) (k := a) (by omega)
        have HU : Hid (∀ kk, w4.heap.size ≤ kk → (wr.setCell (adr q a) (.int .i64 k)).heap[kk]? = W.heap[kk]?) := fun kk hk => by
          rw [Below.heap_setCell wr (adr q a) _ kk (by rw [adr_block]; omega)]; exact hup.out kk hk
        have SH := Lib.hid S; clear S
        clear hT ha
        gi_wp2
        go_roundw
        case rel => exact ⟨j + 1, by omega, by go_num, by rw [HT.out, ← encI_set]; exact SH.out.setRow 4 rfl a (by omega) (.int .i64 k), by simpa using hsz, HU.out⟩
        case measure => simp [intOf]; omega
      · obtain rfl : j = F.length := by omega
        rw [List.take_length, HX.out] at S
        have SH := Lib.hid S; clear S
        gi_wp2
        exact ⟨⟨hsz, fun kk o hB ho _ => (hup.out kk hB).trans ho⟩, ⟨⟨SH.out.ext.os.trans HS.out.ext.os.symm, SH.out.ext.tape.trans HS.out.ext.tape.symm, SH.out.ext.output.trans HS.out.ext.output.symm, hsz, fun kk hk => (SH.out.ext.block kk hk).trans (HS.out.ext.block kk hk).symm⟩, (SH.out.blk 2 rfl).trans (HS.out.blk 2 rfl).symm, (SH.out.blk 1 rfl).trans (HS.out.blk 1 rfl).symm, (SH.out.blk 0 rfl).trans (HS.out.blk 0 rfl).symm, fun kk o hB ho _ => (hup.out kk hB).trans ho⟩, SH.out⟩
  case done =>
    rintro D ys W hD hys S hK
    rw [hys.1, levRow_all hs hys.2] at S
    have c4 := (S.blk 3 rfl).cell 0
    have S' := S.putObj (cells_all fun p hp => by
      simp only [List.mem_cons, List.not_mem_nil, or_false] at hp
      rcases hp with rfl | rfl | rfl | rfl | rfl
      · exact .inl ⟨_, _, _, rfl⟩
      · exact .inl ⟨_, _, _, rfl⟩
      · exact .inl ⟨_, _, _, rfl⟩
      · exact .inl ⟨_, _, _, rfl⟩
      · exact .inr ⟨_, _, _, _, _, _, rfl⟩) (.deferred none) (Nat.le_trans S5.out.ext.size hD) hK rfl
    have SH := Lib.hid S; clear S
    have SH' := Lib.hid S'; clear S'
    go_wp2
    refine ⟨by simp, .inl ⟨_, _, rfl, run_takeDeferred hK, ?_⟩⟩
    exact ⟨.tuple #[.slice q n n, .int .i64 0], by simp [results, Tryz.results23, go_sem], q, n, rfl, SH'.out.pick [4] (by decide) rfl⟩
/-- whatever is asked -/
theorem LevelsG (po : Option Addr) (no co : Nat) (O : List Int) (pt : Option Addr) (nt ct : Nat) (T : List Int) (pr : Option Addr) (nr cr : Nat) (R : List Int) (pv : Option Addr) (nv cv : Nat) (V : List Int) (s : Int) (back : Bool) (w : World) (hO : Rd w 1 po no (encI O)) (hT : Rd w 1 pt nt (encI T)) (hR : Rd w 1 pr nr (encI R)) (hV : Rd w 1 pv nv (encI V)) (hct : nt ≤ ct) (hcv : nv ≤ cv) :
    Calls Tryz.prog 23 #[.agg #[.slice po no co, .slice pt nt ct, .slice pr nr cr, .slice pv nv cv], .int .i64 s, .bool back] w fun e w' => ∃ q c, e = .returned (.tuple #[.slice q (levR (checkR O T R V) back O T R V s).length c, .int .i64 (levC (checkR O T R V) O s)]) ∧ Sep w w' [.own 3 1 q (levR (checkR O T R V) back O T R V s).length c (encI (levR (checkR O T R V) back O T R V s))] := by
  by_cases hc : levC (checkR O T R V) O s = 0
  · have hck : checkR O T R V = true := by
      apply Classical.byContradiction; intro h
      unfold levC at hc; rw [if_neg h] at hc; omega
    have hs : 0 ≤ s ∧ s < (O.length : Int) - 1 := by
      apply Classical.byContradiction; intro h
      unfold levC at hc; rw [if_pos hck, if_neg h] at hc; omega
    obtain ⟨n, hn⟩ : ∃ n, O.length = n + 1 := ⟨O.length - 1, by omega⟩
    obtain ⟨a, rfl⟩ : ∃ a : Nat, s = (a : Int) := ⟨s.toNat, by omega⟩
    have e : levR (checkR O T R V) back O T R V a = (List.range n).map fun v => lev (nxR back O T R V) n a v := by
      unfold levR; rw [if_pos hc, hn]; rfl
    have hl : ((List.range n).map fun v => lev (nxR back O T R V) n a v).length = n := by simp
    rw [hc, e]
    cases back with
    | false =>
      refine (LevelsG_out po no co O pt nt ct T pr nr cr R pv nv cv V n a w hO hT hR hV hct hcv hck hn (by omega)).mono ?_
      rintro e w' ⟨q, c, rfl, S⟩
      exact ⟨q, c, by rw [hl], by rw [hl]; exact S⟩
    | true =>
      refine (LevelsG_in po no co O pt nt ct T pr nr cr R pv nv cv V n a w hO hT hR hV hct hcv hck hn (by omega)).mono ?_
      rintro e w' ⟨q, c, rfl, S⟩
      exact ⟨q, c, by rw [hl], by rw [hl]; exact S⟩
  · have e : levR (checkR O T R V) back O T R V s = [] := by unfold levR; rw [if_neg hc]
    rw [e]
    refine (LevelsG_no po no co O pt nt ct T pr nr cr R pv nv cv V s back w hO hT hR hV hct hcv hc).mono ?_
    rintro e w' ⟨rfl, h⟩
    exact ⟨none, 0, rfl, ((Sep.start w).call h).nilrow _ _⟩
end Go.Proofs.YtgnjffnkmdodeaaGreat
/- The law DistLevels: Dist is what levels tell, from the one place, and back from the other. -/
namespace Go.Proofs.YtgnjffnkmdodeaaGreat
open Go Go.RowKit
set_option maxRecDepth 100000 in
set_option maxHeartbeats 8000000 in
theorem lawLevels8 (po : Option Addr) (no co : Nat) (O : List Int) (pt : Option Addr) (nt ct : Nat) (T : List Int) (pr : Option Addr) (nr cr : Nat) (R : List Int) (pv : Option Addr) (nv cv : Nat) (V : List Int) (s t : Int) (w : World) (hO : Rd w 1 po no (encI O)) (hT : Rd w 1 pt nt (encI T)) (hR : Rd w 1 pr nr (encI R)) (hV : Rd w 1 pv nv (encI V)) (hct : nt ≤ ct) (hcv : nv ≤ cv) : Calls Tryz.prog 4 #[.agg #[.slice po no co, .slice pt nt ct, .slice pr nr cr, .slice pv nv cv], .int .i64 s, .int .i64 t] w fun e w' => e = .returned (.bool true) ∧ Ext w w' := by
  have HBig := Lib.hid (fun W1 (h : Ext w W1) => Big04 po no co O pt nt ct T pr nr cr R pv nv cv V W1 (hO.ext h) (hT.ext h) (hR.ext h) (hV.ext h))
  have S0 := Lib.hid ((Sep.start w).al #[.slice po no co, .slice pt nt ct, .slice pr nr cr, .slice pv nv cv] 24 w.heap.size rfl)
  cases hbig : bigR O T R V with
  | true =>
    rw [hbig] at HBig
    clear hO hT hR hV
    go_enter Tryz.func4, Tryz.ntmps4
    go_wp2_with (go_at_call 10; go_must (refine (HBig.out _ S0.out.ext).mono ?_; rintro e w1 ⟨rfl, hb1⟩; have S1 := Lib.hid (S0.out.call hb1); have xz := (S1.out.blk 0 rfl).lt; have x0 := (S1.out.blk 0 rfl).cell 0; have x1 := (S1.out.blk 0 rfl).cell 1; have x2 := (S1.out.blk 0 rfl).cell 2; have x3 := (S1.out.blk 0 rfl).cell 3; clear hb1))
    go_ret
    exact ⟨rfl, S1.out.ext⟩
  | false =>
    rw [hbig] at HBig
    clear hbig
    by_cases hc : pairC (checkR O T R V) O s t = 0
    · obtain ⟨hck, n, a, b, hno, rfl, rfl, ha, hb⟩ := pairC_zero hc
      have HD := Lib.hid (fun W1 (h : Ext w W1) => DistG_yes po no co O pt nt ct T pr nr cr R pv nv cv V n a b W1 (hO.ext h) (hT.ext h) (hR.ext h) (hV.ext h) hct hcv hck hno ha hb)
      have HA := Lib.hid (fun W1 (h : Ext w W1) => LevelsG_out po no co O pt nt ct T pr nr cr R pv nv cv V n a W1 (hO.ext h) (hT.ext h) (hR.ext h) (hV.ext h) hct hcv hck hno ha)
      have HB := Lib.hid (fun W1 (h : Ext w W1) => LevelsG_in po no co O pt nt ct T pr nr cr R pv nv cv V n b W1 (hO.ext h) (hT.ext h) (hR.ext h) (hV.ext h) hct hcv hck hno hb)
      have hrev : Rev (rowL O T) (rowL R V) n := by have := nxR_rev hck false; rw [hno] at this; exact this
      have hA : nth ((List.range n).map fun v => lev (rowL O T) n a v) b = lev (rowL O T) n a b := levL_nth hb
      have hB : nth ((List.range n).map fun v => lev (rowL R V) n b v) a = lev (rowL O T) n a b := by rw [lev_rev hrev ha hb]; exact levL_nth ha
      have r := offB_parts (halfB_off (checkR_half hck).2.2.1)
      have hn : n ≤ 200 := by omega
      generalize ((List.range n).map fun v => lev (rowL O T) n a v) = A at *
      generalize ((List.range n).map fun v => lev (rowL R V) n b v) = B at *
      generalize lev (rowL O T) n a b = D at *
      have HAt := Lib.hid hA
      have HBs := Lib.hid hB
      have d1 : decide ((b:Int) < 0) = false := by simp
      have d2 : decide ((n:Int) ≤ b) = false := by simp; omega
      have d3 : decide ((a:Int) < 0) = false := by simp
      have d4 : decide ((n:Int) ≤ a) = false := by simp; omega
      have d5 : decide (n ≤ b) = false := by simp; omega
      have d6 : decide (n ≤ a) = false := by simp; omega
      have e1 : (b:Int) < n := by omega
      have e2 : (a:Int) < n := by omega
      clear hO hT hR hV hct hcv hck hrev hA hB hc r hno
      by_cases h0 : 0 ≤ D
      · have HDB : distN D = D ∧ distB D = true := by unfold distN distB; rw [if_pos h0]; exact ⟨rfl, by simpa using h0⟩
        rw [HDB.1, HDB.2] at HD
        have c1 : decide (0 ≤ D) = true := by simpa using h0
        clear HDB h0
        go_enter Tryz.func4, Tryz.ntmps4
        go_wp2_with (first | (go_at_call 23; have _t := S3; go_must (refine (HB.out _ S3.out.ext).mono ?_; rintro e w4 ⟨q4, c4, rfl, Z⟩; have S4 := Lib.hid (S3.out.comp Z); have uz := (S4.out.blk 2 rfl).lt; have u0 := (S4.out.blk 2 rfl).cell 0; have u1 := (S4.out.blk 2 rfl).cell 1; have u2 := (S4.out.blk 2 rfl).cell 2; have u3 := (S4.out.blk 2 rfl).cell 3; clear Z)) | (go_at_call 23; go_must (refine (HA.out _ S2.out.ext).mono ?_; rintro e w3 ⟨q3, c3, rfl, Z⟩; have S3 := Lib.hid (S2.out.comp Z); have vz := (S3.out.blk 1 rfl).lt; have v0 := (S3.out.blk 1 rfl).cell 0; have v1 := (S3.out.blk 1 rfl).cell 1; have v2 := (S3.out.blk 1 rfl).cell 2; have v3 := (S3.out.blk 1 rfl).cell 3; clear Z)) | (go_at_call 12; go_must (refine (HD.out _ S1.out.ext).mono ?_; rintro e w2 ⟨rfl, hb⟩; have S2 := Lib.hid (S1.out.call hb); have yz := (S2.out.blk 0 rfl).lt; have y0 := (S2.out.blk 0 rfl).cell 0; have y1 := (S2.out.blk 0 rfl).cell 1; have y2 := (S2.out.blk 0 rfl).cell 2; have y3 := (S2.out.blk 0 rfl).cell 3; clear hb)) | (go_at_call 10; go_must (refine (HBig.out _ S0.out.ext).mono ?_; rintro e w1 ⟨rfl, hb1⟩; have S1 := Lib.hid (S0.out.call hb1); have xz := (S1.out.blk 0 rfl).lt; have x0 := (S1.out.blk 0 rfl).cell 0; have x1 := (S1.out.blk 0 rfl).cell 1; have x2 := (S1.out.blk 0 rfl).cell 2; have x3 := (S1.out.blk 0 rfl).cell 3; clear hb1)))
        have g1 := (S4.out.rdx 1 rfl).cI (k := b) (by omega)
        have g2 := (S4.out.rdx 0 rfl).cI (k := a) (by omega)
        rw [HAt.out] at g1
        rw [HBs.out] at g2
        have p1 := (S4.out.rdx 1 rfl).ptr
        have p2 := (S4.out.rdx 0 rfl).ptr
        go_wp2
        have u1 := fun x : ExtOf w4 => x.ext.cell g1
        have u2 := fun x : ExtOf w4 => x.ext.cell g2
        refine wp_region_ext (by kernel_rfl) (by kernel_rfl) ?_
        repeat (go_big_quiet_step (((go_at_call 18; exact Calls.ext_of (Dists _)))))
        refine wpQuiet_nil ?_
        rintro w9 ⟨⟨_, hb9⟩, rfl⟩
        try go_wp2
        go_ret
        exact ⟨rfl, Ext.trans S4.out.ext hb9⟩
      · have HDB : distN D = 0 ∧ distB D = false := by unfold distN distB; rw [if_neg h0]; exact ⟨rfl, by simpa using h0⟩
        rw [HDB.1, HDB.2] at HD
        have c1 : decide (0 ≤ D) = false := by simpa using h0
        clear HDB h0
        go_enter Tryz.func4, Tryz.ntmps4
        go_wp2_with (first | (go_at_call 23; have _t := S3; go_must (refine (HB.out _ S3.out.ext).mono ?_; rintro e w4 ⟨q4, c4, rfl, Z⟩; have S4 := Lib.hid (S3.out.comp Z); have uz := (S4.out.blk 2 rfl).lt; have u0 := (S4.out.blk 2 rfl).cell 0; have u1 := (S4.out.blk 2 rfl).cell 1; have u2 := (S4.out.blk 2 rfl).cell 2; have u3 := (S4.out.blk 2 rfl).cell 3; clear Z)) | (go_at_call 23; go_must (refine (HA.out _ S2.out.ext).mono ?_; rintro e w3 ⟨q3, c3, rfl, Z⟩; have S3 := Lib.hid (S2.out.comp Z); have vz := (S3.out.blk 1 rfl).lt; have v0 := (S3.out.blk 1 rfl).cell 0; have v1 := (S3.out.blk 1 rfl).cell 1; have v2 := (S3.out.blk 1 rfl).cell 2; have v3 := (S3.out.blk 1 rfl).cell 3; clear Z)) | (go_at_call 12; go_must (refine (HD.out _ S1.out.ext).mono ?_; rintro e w2 ⟨rfl, hb⟩; have S2 := Lib.hid (S1.out.call hb); have yz := (S2.out.blk 0 rfl).lt; have y0 := (S2.out.blk 0 rfl).cell 0; have y1 := (S2.out.blk 0 rfl).cell 1; have y2 := (S2.out.blk 0 rfl).cell 2; have y3 := (S2.out.blk 0 rfl).cell 3; clear hb)) | (go_at_call 10; go_must (refine (HBig.out _ S0.out.ext).mono ?_; rintro e w1 ⟨rfl, hb1⟩; have S1 := Lib.hid (S0.out.call hb1); have xz := (S1.out.blk 0 rfl).lt; have x0 := (S1.out.blk 0 rfl).cell 0; have x1 := (S1.out.blk 0 rfl).cell 1; have x2 := (S1.out.blk 0 rfl).cell 2; have x3 := (S1.out.blk 0 rfl).cell 3; clear hb1)))
        have g1 := (S4.out.rdx 1 rfl).cI (k := b) (by omega)
        have g2 := (S4.out.rdx 0 rfl).cI (k := a) (by omega)
        rw [HAt.out] at g1
        rw [HBs.out] at g2
        have p1 := (S4.out.rdx 1 rfl).ptr
        have p2 := (S4.out.rdx 0 rfl).ptr
        go_wp2
        have u1 := fun x : ExtOf w4 => x.ext.cell g1
        have u2 := fun x : ExtOf w4 => x.ext.cell g2
        refine wp_region_ext (by kernel_rfl) (by kernel_rfl) ?_
        repeat (go_big_quiet_step (((go_at_call 18; exact Calls.ext_of (Dists _)))))
        refine wpQuiet_nil ?_
        rintro w9 ⟨⟨_, hb9⟩, rfl⟩
        try go_wp2
        go_ret
        exact ⟨rfl, Ext.trans S4.out.ext hb9⟩
    · have HD := Lib.hid (fun W1 (h : Ext w W1) => DistG_no po no co O pt nt ct T pr nr cr R pv nv cv V s t W1 (hO.ext h) (hT.ext h) (hR.ext h) (hV.ext h) hct hcv hc)
      have HA := Lib.hid (fun W1 (h : Ext w W1) => LevelsG po no co O pt nt ct T pr nr cr R pv nv cv V s false W1 (hO.ext h) (hT.ext h) (hR.ext h) (hV.ext h) hct hcv)
      have HB := Lib.hid (fun W1 (h : Ext w W1) => LevelsG po no co O pt nt ct T pr nr cr R pv nv cv V t true W1 (hO.ext h) (hT.ext h) (hR.ext h) (hV.ext h) hct hcv)
      have hpl := pairC_lev (ck := checkR O T R V) (O := O) (s := s) (t := t)
      generalize pairC (checkR O T R V) O s t = c at *
      generalize levC (checkR O T R V) O s = cs at *
      generalize levC (checkR O T R V) O t = ct' at *
      generalize levR (checkR O T R V) false O T R V s = A at *
      generalize levR (checkR O T R V) true O T R V t = B at *
      have hc0 : (c != 0) = true := by simpa using hc
      clear hO hT hR hV hct hcv
      by_cases h1 : cs = 0
      · have hct2 : (ct' != 0) = true := by
          rw [if_pos h1] at hpl
          rw [hpl] at hc; simpa using hc
        subst h1
        clear hpl hc
        go_enter Tryz.func4, Tryz.ntmps4
        go_wp2_with (first | (go_at_call 18; go_must (refine (Dists _).mono ?_; rintro e wz ⟨rfl, hb⟩; have SZ := Lib.hid (S4.out.call hb); clear hb)) | (go_at_call 23; have _t := S3; go_must (refine (HB.out _ S3.out.ext).mono ?_; rintro e w4 ⟨q4, c4, rfl, Z⟩; have S4 := Lib.hid (S3.out.comp Z); have uz := (S4.out.blk 2 rfl).lt; have u0 := (S4.out.blk 2 rfl).cell 0; have u1 := (S4.out.blk 2 rfl).cell 1; have u2 := (S4.out.blk 2 rfl).cell 2; have u3 := (S4.out.blk 2 rfl).cell 3; clear Z)) | (go_at_call 23; go_must (refine (HA.out _ S2.out.ext).mono ?_; rintro e w3 ⟨q3, c3, rfl, Z⟩; have S3 := Lib.hid (S2.out.comp Z); have vz := (S3.out.blk 1 rfl).lt; have v0 := (S3.out.blk 1 rfl).cell 0; have v1 := (S3.out.blk 1 rfl).cell 1; have v2 := (S3.out.blk 1 rfl).cell 2; have v3 := (S3.out.blk 1 rfl).cell 3; clear Z)) | (go_at_call 12; go_must (refine (HD.out _ S1.out.ext).mono ?_; rintro e w2 ⟨rfl, hb⟩; have S2 := Lib.hid (S1.out.call hb); have yz := (S2.out.blk 0 rfl).lt; have y0 := (S2.out.blk 0 rfl).cell 0; have y1 := (S2.out.blk 0 rfl).cell 1; have y2 := (S2.out.blk 0 rfl).cell 2; have y3 := (S2.out.blk 0 rfl).cell 3; clear hb)) | (go_at_call 10; go_must (refine (HBig.out _ S0.out.ext).mono ?_; rintro e w1 ⟨rfl, hb1⟩; have S1 := Lib.hid (S0.out.call hb1); have xz := (S1.out.blk 0 rfl).lt; have x0 := (S1.out.blk 0 rfl).cell 0; have x1 := (S1.out.blk 0 rfl).cell 1; have x2 := (S1.out.blk 0 rfl).cell 2; have x3 := (S1.out.blk 0 rfl).cell 3; clear hb1)))
        go_ret
        exact ⟨rfl, SZ.out.ext⟩
      · have hcs2 : (cs != 0) = true := by simpa using h1
        clear hpl hc h1
        go_enter Tryz.func4, Tryz.ntmps4
        go_wp2_with (first | (go_at_call 18; go_must (refine (Dists _).mono ?_; rintro e wz ⟨rfl, hb⟩; have SZ := Lib.hid (S4.out.call hb); clear hb)) | (go_at_call 23; have _t := S3; go_must (refine (HB.out _ S3.out.ext).mono ?_; rintro e w4 ⟨q4, c4, rfl, Z⟩; have S4 := Lib.hid (S3.out.comp Z); have uz := (S4.out.blk 2 rfl).lt; have u0 := (S4.out.blk 2 rfl).cell 0; have u1 := (S4.out.blk 2 rfl).cell 1; have u2 := (S4.out.blk 2 rfl).cell 2; have u3 := (S4.out.blk 2 rfl).cell 3; clear Z)) | (go_at_call 23; go_must (refine (HA.out _ S2.out.ext).mono ?_; rintro e w3 ⟨q3, c3, rfl, Z⟩; have S3 := Lib.hid (S2.out.comp Z); have vz := (S3.out.blk 1 rfl).lt; have v0 := (S3.out.blk 1 rfl).cell 0; have v1 := (S3.out.blk 1 rfl).cell 1; have v2 := (S3.out.blk 1 rfl).cell 2; have v3 := (S3.out.blk 1 rfl).cell 3; clear Z)) | (go_at_call 12; go_must (refine (HD.out _ S1.out.ext).mono ?_; rintro e w2 ⟨rfl, hb⟩; have S2 := Lib.hid (S1.out.call hb); have yz := (S2.out.blk 0 rfl).lt; have y0 := (S2.out.blk 0 rfl).cell 0; have y1 := (S2.out.blk 0 rfl).cell 1; have y2 := (S2.out.blk 0 rfl).cell 2; have y3 := (S2.out.blk 0 rfl).cell 3; clear hb)) | (go_at_call 10; go_must (refine (HBig.out _ S0.out.ext).mono ?_; rintro e w1 ⟨rfl, hb1⟩; have S1 := Lib.hid (S0.out.call hb1); have xz := (S1.out.blk 0 rfl).lt; have x0 := (S1.out.blk 0 rfl).cell 0; have x1 := (S1.out.blk 0 rfl).cell 1; have x2 := (S1.out.blk 0 rfl).cell 2; have x3 := (S1.out.blk 0 rfl).cell 3; clear hb1)))
        go_ret
        exact ⟨rfl, SZ.out.ext⟩
end Go.Proofs.YtgnjffnkmdodeaaGreat
/- An argument that is a graph, opened: what its slices read. -/
namespace Go.Proofs.YtgnjffnkmdodeaaGreat
open Go Go.RowKit Go.ChangeShapes Go.WideShapes Go.ChangeAt Go.Deep Go.Joins
theorem exists_list {α : Type} [Inhabited α] {n : Nat} {p : Nat → α → Prop} (h : ∀ i, i < n → ∃ x, p i x) : ∃ l : List α, l.length = n ∧ ∀ i, i < n → p i (nth l i) := by
  induction n with
  | zero => exact ⟨[], rfl, fun i hi => by omega⟩
  | succ n ih =>
    obtain ⟨l, hl, hp⟩ := ih fun i hi => h i (by omega)
    obtain ⟨x, hx⟩ := h n (by omega)
    refine ⟨l ++ [x], by simp [hl], fun i hi => ?_⟩
    by_cases e : i = n
    · subst e
      have : nth (l ++ [x]) i = x := by subst hl; exact nth_append_new _ _
      rw [this]; exact hx
    · rw [nth_append_left _ _ _ (by omega)]; exact hp i (by omega)
theorem spot_of_cell {w : World} {a : Addr} {v : Value} (h : w.cell? a = some v) : a = ⟨a.block, a.off, none⟩ := by
  unfold World.cell? at h
  split at h
  · split at h
    · cases h
    · rename_i hs
      obtain ⟨b, o, s⟩ := a
      cases s with
      | none => rfl
      | some s => simp at hs
  · cases h
theorem Rd.of_cells {w : World} {size n : Nat} {a : Addr} {xs : List Value} (h0 : 0 < size) (hlen : xs.length = n * size) (hs : n ≤ 9223372036854775807) (hc : ∀ j, j < n * size → w.cell? (a.add j) = some (xs.getD j undef)) : Rd w size (some a) n xs := by
  rcases Nat.eq_zero_or_pos n with hn | hn
  · subst hn
    have : xs = [] := List.eq_nil_of_length_eq_zero (by simpa using hlen)
    subst this
    exact Rd.nil _ _ _
  · have h1 := hc 0 (Nat.mul_pos hn h0)
    have ha := spot_of_cell (a := a) (by simpa [Addr.add] using h1)
    refine ⟨hlen, .inr ⟨_, _, by rw [ha]⟩, hs, fun j hj => ?_⟩
    rw [← hc j hj]
    congr 1
    rw [ha, adr_some]
    by_cases hj0 : j = 0
    · subst hj0; simp [Addr.add]
    · simp [Addr.add, hj0]
section
variable {H : Type} {enc : TypeId × Value → H} {w : World} {base : Nat} {spare : Nat → Bool} {held : Bool}
theorem open_slice_fields {P : Program} {t e : TypeId} {fs : Array Field} {fuel : Nat} {cs : List Value} {x : DataW H × List MemPlace} (ht : P.underlying t = some (.slice e)) (he : P.underlying e = some (.struct fs))
    (hone : oneCellFields P fs = true) (hC : P.cellsOf e = fs.size) (h : DataW.trod enc P w base spare held fuel t cs = some x) :
    (cs = [.slice none 0 0]) ∨
    ∃ (a : Addr) (len cap : Nat), cs = [.slice (some a) len cap] ∧ len ≤ cap ∧ cap ≤ maxLen ∧
      ∀ i, i < len → ∀ (j : Nat) (f : Field), fs[j]? = some f → ∃ (v : Value) (y : DataW H × List MemPlace) (n : Nat), w.cell? (a.add (i * fs.size + j)) = some v ∧ DataW.trod enc P w base spare held n f.type [v] = some y := by
  rcases open_slice ht h with h0 | ⟨a, len, cap, m, n, D, Pl, hcs, hb, hl, hm, hmm, hx, hi⟩
  · exact .inl h0.1
  · refine .inr ⟨a, len, cap, hcs, hl, hm, fun i hil j f hj => ?_⟩
    obtain ⟨cs', hc, ht'⟩ := hi i (by rw [hmm]; split <;> omega)
    rw [hC] at hc
    obtain ⟨ys, n', hn', hy, hlen, hyl, hf⟩ := DataW.trod_struct he ht'
    obtain ⟨_, hcl, hat⟩ := World.cells?_some hc
    obtain ⟨ho, hk⟩ := hone_of hone j f hj
    have hjl : j < fs.size := (Array.getElem?_eq_some_iff.1 hj).1
    have hcell := hat j hjl
    have hv : cs'[j]? = some (cs'[j]'(by omega)) := List.getElem?_eq_getElem (by omega)
    have h1 := hf j f hj
    rw [ho, hk] at h1
    have hone' : (cs'.drop j).take 1 = [cs'[j]'(by omega)] := by
      rw [List.drop_eq_getElem_cons (by omega)]
      rfl
    rw [hone'] at h1
    have hys : ys[j]? = some (ys[j]'(by omega)) := List.getElem?_eq_getElem (by omega)
    refine ⟨_, _, _, ?_, h1.trans hys⟩
    rw [← Go.Deep.add_add, hcell, hv]
theorem open_edges {t : TypeId} {fuel : Nat} {v : Value} {x : DataW H × List MemPlace} (ht : Tryz.prog.underlying t = some (.slice 53)) (h : DataW.trod enc Tryz.prog w base spare held fuel t [v] = some x) :
    ∃ p n c E, v = .slice p n c ∧ Rd w 2 p n (encE E) := by
  rcases open_slice_fields ht Tryz.underlying53 (by kernel_rfl) (by kernel_rfl) h with h0 | ⟨a, len, cap, hcs, hl, hm, hi⟩
  · simp at h0; exact ⟨none, 0, 0, [], h0, Rd.nil _ _ _⟩
  · simp at hcs
    have hl2 : len ≤ 9223372036854775807 := by unfold maxLen at hm; omega
    have hE : ∀ i, i < len → ∃ e : Int × Int, w.cell? (a.add (i * 2)) = some (.int .i64 e.1) ∧ w.cell? (a.add (i * 2 + 1)) = some (.int .i64 e.2) := by
      intro i hil
      obtain ⟨v1, y1, n1, c1, t1⟩ := hi i hil 0 _ rfl
      obtain ⟨v2, y2, n2, c2, t2⟩ := hi i hil 1 _ rfl
      obtain ⟨k1, e1, _⟩ := DataW.trod_int Tryz.underlying3 t1
      obtain ⟨k2, e2, _⟩ := DataW.trod_int Tryz.underlying3 t2
      simp at e1 e2
      subst e1 e2
      exact ⟨(k1, k2), c1, c2⟩
    obtain ⟨E, hEl, hEc⟩ := exists_list hE
    refine ⟨some a, len, cap, E, hcs, Rd.of_cells (by decide) (by rw [encE_len, hEl]) hl2 fun j hj => ?_⟩
    have hd : j / 2 < len := by omega
    obtain ⟨g1, g2⟩ := encE_get E (j / 2) (by omega)
    obtain ⟨h1, h2⟩ := hEc (j / 2) hd
    have hm2 : j = j / 2 * 2 ∨ j = j / 2 * 2 + 1 := by omega
    rcases hm2 with e | e
    · rw [e, g1]; exact h1
    · rw [e, g2]; exact h2
theorem open_texts {t : TypeId} {fuel : Nat} {v : Value} {x : DataW H × List MemPlace} (ht : Tryz.prog.underlying t = some (.slice 9)) (h : DataW.trod enc Tryz.prog w base spare held fuel t [v] = some x) :
    ∃ p n c l, v = .slice p n c ∧ Rd w 1 p n (encS l) := by
  rcases open_slice ht h with h0 | ⟨a, len, cap, m, n, D, Pl, hcs, hb, hl, hm, hmm, hx, hi⟩
  · obtain ⟨h0, _⟩ := h0; simp at h0; exact ⟨none, 0, 0, [], h0, Rd.nil _ _ _⟩
  · simp at hcs
    have hl2 : len ≤ 9223372036854775807 := by unfold maxLen at hm; omega
    have hc1 : Tryz.prog.cellsOf 9 = 1 := by kernel_rfl
    rw [hc1] at hi
    have hS : ∀ i, i < len → ∃ s : ByteArray, w.cell? (a.add i) = some (.string s) := by
      intro i hil
      obtain ⟨cs', hc, ht'⟩ := hi i (by rw [hmm]; split <;> omega)
      obtain ⟨s, e1, _⟩ := DataW.trod_string Tryz.underlying9 ht'
      obtain ⟨_, hcl, hat⟩ := World.cells?_some hc
      have := hat 0 (by decide)
      rw [Go.Deep.add_add, Nat.mul_one, Nat.add_zero, e1] at this
      exact ⟨s, this⟩
    obtain ⟨l, hll, hlc⟩ := exists_list hS
    refine ⟨some a, len, cap, l, hcs, Rd.of_cells (by decide) (by rw [encS_len, hll, Nat.mul_one]) hl2 fun j hj => ?_⟩
    rw [encS_get l j (by omega)]
    exact hlc j (by omega)
theorem open_rows {t : TypeId} {fuel : Nat} {v : Value} {x : DataW H × List MemPlace} (ht : Tryz.prog.underlying t = some (.slice 114)) (h : DataW.trod enc Tryz.prog w base spare held fuel t [v] = some x) :
    ∃ p n c hs W, v = .slice p n c ∧ RdW w p n hs W := by
  rcases open_slice ht h with h0 | ⟨a, len, cap, m, n, D, Pl, hcs, hb, hl, hm, hmm, hx, hi⟩
  · obtain ⟨h0, _⟩ := h0; simp at h0; exact ⟨none, 0, 0, [], [], h0, rfl, Rd.nil _ _ _, fun j hj => by omega⟩
  · simp at hcs
    have hl2 : len ≤ 9223372036854775807 := by unfold maxLen at hm; omega
    have hc1 : Tryz.prog.cellsOf 114 = 1 := by kernel_rfl
    rw [hc1] at hi
    have hS : ∀ i, i < len → ∃ q : Hd × List ByteArray, w.cell? (a.add i) = some (.slice q.1.p q.1.n q.1.c) ∧ Rd w 1 q.1.p q.1.n (encS q.2) := by
      intro i hil
      obtain ⟨cs', hc, ht'⟩ := hi i (by rw [hmm]; split <;> omega)
      obtain ⟨_, hcl, hat⟩ := World.cells?_some hc
      match cs', hcl with
      | [u], _ =>
        obtain ⟨p, n', c', l, e1, hr⟩ := open_texts Tryz.underlying114 ht'
        have := hat 0 (by decide)
        rw [Go.Deep.add_add, Nat.mul_one, Nat.add_zero, e1] at this
        exact ⟨(⟨p, n', c'⟩, l), this, hr⟩
    obtain ⟨l, hll, hlc⟩ := exists_list hS
    have hm : ∀ i, i < len → nth (l.map (·.1)) i = (nth l i).1 ∧ nth (l.map (·.2)) i = (nth l i).2 := fun i hil => by
      rw [nth_eq (l := l.map (·.1)) (by rw [List.length_map]; omega), nth_eq (l := l.map (·.2)) (by rw [List.length_map]; omega), nth_eq (l := l) (by omega)]; simp
    refine ⟨some a, len, cap, l.map (·.1), l.map (·.2), hcs, by simp, Rd.of_cells (by decide) (by rw [encH_len, List.length_map, hll, Nat.mul_one]) hl2 fun j hj => ?_, fun j hj => ?_⟩
    · rw [encH_get _ j (by simp; omega), (hm j (by omega)).1]
      exact (hlc j (by omega)).1
    · rw [(hm j hj).1, (hm j hj).2]
      exact (hlc j hj).2
set_option maxRecDepth 100000 in
/-- a graph by value -/
theorem open_graph {r : Reach} {b0 : Nat} {v : Value} {d : DataW H} {p : List MemPlace} (hv : Value.okWide Tryz.prog w r b0 77 v) (h : DataW.Trod enc Tryz.prog w base spare held 77 v d p) :
    ∃ N pe ne ce pw nw cw E hs W, v = .agg #[.int .i64 N, .slice pe ne ce, .slice pw nw cw] ∧ Rd w 2 pe ne (encE E) ∧ RdW w pw nw hs W := by
  obtain ⟨v0, v1, v2, y0, y1, y2, n, rfl, _, _, t0, t1, t2⟩ := open_agg3 Tryz.underlying77 (by kernel_rfl) (by kernel_rfl) hv h
  obtain ⟨N, e0, _⟩ := DataW.trod_int Tryz.underlying3 t0
  simp at e0
  subst e0
  obtain ⟨pe, ne, ce, E, rfl, hE⟩ := open_edges Tryz.underlying48 t1
  obtain ⟨pw, nw, cw, hs, W, rfl, hW⟩ := open_rows Tryz.underlying75 t2
  exact ⟨N, pe, ne, ce, pw, nw, cw, E, hs, W, rfl, hE, hW⟩
end
end Go.Proofs.YtgnjffnkmdodeaaGreat
/- The last step of a law's row: the result is true, the arguments read as they did, where the call only made memory. -/
namespace Go.Proofs.YtgnjffnkmdodeaaGreat
open Go Go.RowKit Go.WideShapes Go.ChangeShapes
theorem own : ownKnob Tryz.prog.godebug = none := by kernel_rfl
theorem laidOut : laidOutB Tryz.prog = true := by kernel_rfl
set_option maxRecDepth 100000 in
/-- true comes back, the arguments stay: what is left to show is their reading -/
theorem law_post {H : Type} {enc : TypeId × Value → H} {f : Func} {s : ChangeSpec} {apart fresh handsOn again : Bool} {W W' : World} {args : Array Value} {ds : List (DataW H)} {before : List MemPlace}
    (hW : DataW.Whole enc Tryz.prog f.params.toList s.vars apart W args.toList ds [] before) (ht : f.resultTypes = #[4]) (hvars : s.vars = [])
    (hfn : s.fn H (ds ++ []) = { results := [.lit (.bool true)], args := ds })
    (hargs : ∀ sp : Nat → Bool, (∀ p ∈ before, sp p.block = true) → DataW.TrodAll enc Tryz.prog W' 0 sp true f.params.toList args.toList ds before)
    (hb : Below W.heap.size W W') : s.post enc Tryz.prog f apart fresh handsOn again W args (.bool true) W' := by
  have lits : ∀ (b : Nat) (sp : Nat → Bool) (hd : Bool), DataW.TrodAll enc Tryz.prog W' b sp hd f.resultTypes.toList ((Value.bool true).resultList f.resultTypes.size) (s.fn H (ds ++ [])).results [] := by
    intro b sp hd
    rw [hfn, ht]
    exact trodAll_mk1 (shut_bool Tryz.underlying4 true)
  have hold : ∀ sp : Nat → Bool, (∀ p ∈ before, sp p.block = true) → DataW.TrodAll enc Tryz.prog W' 0 sp true f.params.toList args.toList (s.fn H (ds ++ [])).args before := by
    intro sp hsp
    rw [hfn]; exact hargs sp hsp
  have hv : ∀ sp : Nat → Bool, DataW.TrodVars enc Tryz.prog W' sp s.vars (s.fn H (ds ++ [])).vars [] := by
    intro sp; rw [hfn, hvars]; rfl
  have hin : ∀ p ∈ before, p.block < W.heap.size := fun p hp => hW.lt p hp
  have same : before = before ++ [] := by simp
  refine ⟨ds, [], before, [], before, [], hW, lits _ _ _, hold _ (fun p hp => by simpa using hin p hp), hv _, World.keptBut_mono (fun p hp => ⟨hp, .inr (by simpa using hp)⟩) (hb.frame (· ∈ before)), fun _ => ?_⟩
  have hW2 := hW
  obtain ⟨_, _, _, _, _, hz, hn⟩ := hW2
  refine ⟨ok_one (by rw [ht]) rfl (okWide_bool_mk Tryz.underlying4 _), _, _, ([] ++ before) ++ [], ⟨[] ++ before, [], trodAll_append (hold _ (fun _ _ => rfl)) (lits _ _ _), hv _, rfl, ?_, ?_⟩, ?_⟩
  · intro b off hp
    have hp2 : MemPlace.cell b off ∈ before := by simpa using hp
    rw [hb.frozen (hin _ hp2)]
    exact hz b off hp2
  · intro ha
    simpa using hn ha
  · intro p hp _
    simpa using hp
/-- an argument's reading, carried behind the call -/
theorem stays {H : Type} {enc : TypeId × Value → H} {W W' : World} {t : TypeId} {v : Value} {d : DataW H} {ps : List MemPlace} (hr : Tryz.prog.readableRec t = true) (hrow : t < Tryz.prog.types.size) (h : DataW.Trod enc Tryz.prog W 0 (fun _ => true) true t v d ps)
    (hb : Below W.heap.size W W') (hlt : ∀ x ∈ ps, x.block < W.heap.size) {sp : Nat → Bool} (hsp : ∀ x ∈ ps, sp x.block = true) : DataW.Trod enc Tryz.prog W' 0 sp true t v d ps :=
  WideElems.Trod_stays laidOut hr hrow h (fun x hx => hb.same (hlt x hx)) hsp
/-- all readings, one by one -/
theorem trodAll_turn {H : Type} {enc : TypeId × Value → H} {P : Program} {W W' : World} {sp sp' : Nat → Bool} {hd : Bool} (ts : List TypeId) : ∀ {vs : List Value} {ds : List (DataW H)} {ps : List MemPlace}, DataW.TrodAll enc P W 0 sp hd ts vs ds ps →
    (∀ t ∈ ts, ∀ v d p, (∀ x ∈ p, x ∈ ps) → DataW.Trod enc P W 0 sp hd t v d p → DataW.Trod enc P W' 0 sp' hd t v d p) → DataW.TrodAll enc P W' 0 sp' hd ts vs ds ps := by
  induction ts with
  | nil =>
    intro vs ds ps h _
    obtain ⟨rfl, rfl, rfl⟩ := trodAll_nil h
    exact trodAll_mk0
  | cons t ts ih =>
    intro vs ds ps h hk
    obtain ⟨v, vs', d, ds', p, q, rfl, rfl, rfl, h1, h2⟩ := trodAll_cons h
    exact trodAll_cons_mk (hk t (by simp) v d p (fun x hx => by simp [hx]) h1) (ih h2 fun t' ht' v' d' p' hp' h' => hk t' (by simp [ht']) v' d' p' (fun x hx => by simp [hp' x hx]) h')
/-- all arguments' reading, carried behind the call -/
theorem stays_all {H : Type} {enc : TypeId × Value → H} {W W' : World} {ts : List TypeId} {vs : List Value} {ds : List (DataW H)} {ps : List MemPlace} (hr : ts.all (fun t => Tryz.prog.readableRec t && decide (t < Tryz.prog.types.size)) = true)
    (h : DataW.TrodAll enc Tryz.prog W 0 (fun _ => true) true ts vs ds ps) (hb : Below W.heap.size W W') (hlt : ∀ x ∈ ps, x.block < W.heap.size) {sp : Nat → Bool} (hsp : ∀ x ∈ ps, sp x.block = true) : DataW.TrodAll enc Tryz.prog W' 0 sp true ts vs ds ps :=
  trodAll_turn ts h fun t ht v d p hp h1 => by
    have h2 := List.all_eq_true.1 hr t ht
    rw [Bool.and_eq_true, decide_eq_true_eq] at h2
    exact stays h2.1 h2.2 h1 hb (fun x hx => hlt x (hp x hx)) (fun x hx => hsp x (hp x hx))
end Go.Proofs.YtgnjffnkmdodeaaGreat
/- Arguments that are rows of numbers, of texts, of postings: what they read. -/
namespace Go.Proofs.YtgnjffnkmdodeaaGreat
open Go Go.RowKit Go.ChangeShapes Go.WideShapes Go.ChangeAt Go.Deep Go.Joins
section
variable {H : Type} {enc : TypeId × Value → H} {w : World} {base : Nat} {spare : Nat → Bool} {held : Bool}
theorem trod_ints {t : TypeId} {fuel : Nat} {v : Value} {x : DataW H × List MemPlace} (ht : Tryz.prog.underlying t = some (.slice 3)) (h : DataW.trod enc Tryz.prog w base spare held fuel t [v] = some x) :
    ∃ p n c l, v = .slice p n c ∧ n ≤ c ∧ Rd w 1 p n (encI l) ∧ ∀ x ∈ l, I64 x := by
  rcases open_slice ht h with h0 | ⟨a, len, cap, m, n, D, Pl, hcs, hb, hl, hm, hmm, hx, hi⟩
  · obtain ⟨h0, _⟩ := h0; simp at h0; exact ⟨none, 0, 0, [], h0, Nat.le_refl _, Rd.nil _ _ _, fun x hx => nomatch hx⟩
  · simp at hcs
    have hl2 : len ≤ 9223372036854775807 := by unfold maxLen at hm; omega
    have hc1 : Tryz.prog.cellsOf 3 = 1 := by kernel_rfl
    rw [hc1] at hi
    have hS : ∀ i, i < len → ∃ s : Int, w.cell? (a.add i) = some (.int .i64 s) ∧ I64 s := by
      intro i hil
      obtain ⟨cs', hc, ht'⟩ := hi i (by rw [hmm]; split <;> omega)
      obtain ⟨s, e1, _, hw⟩ := DataW.trod_int Tryz.underlying3 ht'
      obtain ⟨_, hcl, hat⟩ := World.cells?_some hc
      have := hat 0 (by decide)
      rw [Go.Deep.add_add, Nat.mul_one, Nat.add_zero, e1] at this
      exact ⟨s, this, hw⟩
    obtain ⟨l, hll, hlc⟩ := exists_list hS
    refine ⟨some a, len, cap, l, hcs, hl, Rd.of_cells (by decide) (by rw [encI_len, hll, Nat.mul_one]) hl2 fun j hj => ?_, fun x hx => ?_⟩
    · rw [encI_get l j (by omega)]
      exact (hlc j (by omega)).1
    · obtain ⟨j, hj, rfl⟩ := List.mem_iff_getElem.1 hx
      rw [← nth_eq hj]
      exact (hlc j (by omega)).2
theorem trod_texts {t : TypeId} {fuel : Nat} {v : Value} {x : DataW H × List MemPlace} (ht : Tryz.prog.underlying t = some (.slice 9)) (h : DataW.trod enc Tryz.prog w base spare held fuel t [v] = some x) :
    ∃ p n c l, v = .slice p n c ∧ n ≤ c ∧ Rd w 1 p n (encS l) := by
  obtain ⟨p, n, c, l, rfl, hr⟩ := open_texts ht h
  refine ⟨p, n, c, l, rfl, ?_, hr⟩
  rcases open_slice ht h with h0 | ⟨a, len, cap, m, n', D, Pl, hcs, hb, hl, _⟩
  · obtain ⟨h0, _⟩ := h0; simp at h0; omega
  · simp at hcs; omega
set_option maxRecDepth 100000 in
theorem open_top {t e : TypeId} {r : Reach} {b0 : Nat} {v : Value} {d : DataW H} {p : List MemPlace} (ht : Tryz.prog.underlying t = some (.slice e)) (hv : Value.okWide Tryz.prog w r b0 t v) (h : DataW.Trod enc Tryz.prog w base spare held t v d p) :
    ∃ fuel, DataW.trod enc Tryz.prog w base spare held fuel t [v] = some (d, p) := by
  obtain ⟨a, n, c, rfl⟩ := okWide_slice ht hv
  exact h
set_option maxRecDepth 100000 in
theorem open_introw {r : Reach} {b0 : Nat} {v : Value} {d : DataW H} {p : List MemPlace} (hv : Value.okWide Tryz.prog w r b0 22 v) (h : DataW.Trod enc Tryz.prog w base spare held 22 v d p) :
    ∃ p n c l, v = .slice p n c ∧ n ≤ c ∧ Rd w 1 p n (encI l) ∧ ∀ x ∈ l, I64 x := by
  obtain ⟨f, hf⟩ := open_top Tryz.underlying22 hv h
  exact trod_ints Tryz.underlying22 hf
set_option maxRecDepth 100000 in
theorem open_textrow {r : Reach} {b0 : Nat} {v : Value} {d : DataW H} {p : List MemPlace} (hv : Value.okWide Tryz.prog w r b0 114 v) (h : DataW.Trod enc Tryz.prog w base spare held 114 v d p) :
    ∃ p n c l, v = .slice p n c ∧ n ≤ c ∧ Rd w 1 p n (encS l) := by
  obtain ⟨f, hf⟩ := open_top Tryz.underlying114 hv h
  exact trod_texts Tryz.underlying114 hf
end
end Go.Proofs.YtgnjffnkmdodeaaGreat
/- An argument that is rows, opened. -/
namespace Go.Proofs.YtgnjffnkmdodeaaGreat
open Go Go.RowKit Go.ChangeShapes Go.WideShapes Go.ChangeAt Go.Deep Go.Joins
section
variable {H : Type} {enc : TypeId × Value → H} {w : World} {base : Nat} {spare : Nat → Bool} {held : Bool}
set_option maxRecDepth 100000 in
theorem open_rowsarg {r : Reach} {b0 : Nat} {v : Value} {d : DataW H} {p : List MemPlace} (hv : Value.okWide Tryz.prog w r b0 24 v) (h : DataW.Trod enc Tryz.prog w base spare held 24 v d p) :
    ∃ po no co O pt nt ct T pr nr cr R pv nv cv V, v = .agg #[.slice po no co, .slice pt nt ct, .slice pr nr cr, .slice pv nv cv] ∧ Rd w 1 po no (encI O) ∧ Rd w 1 pt nt (encI T) ∧ Rd w 1 pr nr (encI R) ∧ Rd w 1 pv nv (encI V) ∧ no ≤ co ∧ nt ≤ ct ∧ nr ≤ cr ∧ nv ≤ cv := by
  obtain ⟨v0, v1, v2, v3, y0, y1, y2, y3, n, rfl, _, _, t0, t1, t2, t3⟩ := open_agg4 Tryz.underlying24 (by kernel_rfl) (by kernel_rfl) hv h
  obtain ⟨po, no, co, O, rfl, c0, h0, _⟩ := trod_ints Tryz.underlying22 t0
  obtain ⟨pt, nt, ct, T, rfl, c1, h1, _⟩ := trod_ints Tryz.underlying22 t1
  obtain ⟨pr, nr, cr, R, rfl, c2, h2, _⟩ := trod_ints Tryz.underlying22 t2
  obtain ⟨pv, nv, cv, V, rfl, c3, h3, _⟩ := trod_ints Tryz.underlying22 t3
  exact ⟨po, no, co, O, pt, nt, ct, T, pr, nr, cr, R, pv, nv, cv, V, rfl, h0, h1, h2, h3, c0, c1, c2, c3⟩
end
end Go.Proofs.YtgnjffnkmdodeaaGreat
