/- Texts of this claim, one behind the other: Lv7c, Rep7, Lv7d, MapT, Make5, R10, Mk5r, Eq5, Ex5, PlainP, Chk5r, LPTells, Nr2, Nr3, Row4r, Half4r, Chk4r, Out4r, Ex4, Edg4, Edg4r, Lev7r. -/
import Derived.Shelf.Bits.Mul64
import Derived.Laws.CopyOwn
import Derived.StillTailTactics
import Derived.Deep.RegionWith
import Derived.Deep.LoopGhost
import Derived.Maps.OwnSet
import Derived.Test.YtkekibnhmfmhmaaGreatQNearSound3
/- The program's levels (chapter 7): the iterator over fronts, its contract. -/
namespace Go.Proofs.YtkekibnhmfmhmaaGreat
open Go Go.RowKit
attribute [local go_sem] Oper.semAt_some
/-- what lay low stays, and the iterator's boxes -/
structure LowF (n₀ b1 b2 b3 : Nat) (w W : World) : Prop where
  low : Below n₀ w W
  x1 : W.heap[b1]? = w.heap[b1]?
  x2 : W.heap[b2]? = w.heap[b2]?
  x3 : W.heap[b3]? = w.heap[b3]?
theorem LowF.far {n₀ b1 b2 b3 B : Nat} {w Z W W' : World} (h : LowF n₀ b1 b2 b3 w W) (h0 : n₀ ≤ B) (h1 : b1 < B) (h2 : b2 < B) (h3 : b3 < B) (hB : w.heap.size ≤ Z.heap.size) (k1 : Below B Z W) (k2 : Below B Z W') : LowF n₀ b1 b2 b3 w W' :=
  have e : ∀ k, k < B → W'.heap[k]? = W.heap[k]? := fun k hk => (k2.block k hk).trans (k1.block k hk).symm
  ⟨⟨k2.os.trans (k1.os.symm.trans h.low.os), k2.tape.trans (k1.tape.symm.trans h.low.tape), k2.output.trans (k1.output.symm.trans h.low.output), Nat.le_trans hB k2.size, fun k hk => (e k (by omega)).trans (h.low.block k hk)⟩,
    (e b1 h1).trans h.x1, (e b2 h2).trans h.x2, (e b3 h3).trans h.x3⟩
theorem front_bd8 {f : Nat → Int} {n : Nat} {k : Int} {F : List Int} (hF : IsFront f n k F) : (∀ x ∈ F, 0 ≤ x ∧ x < n) ∧ F.length ≤ n :=
  ⟨fun x hx => ⟨((hF.2 x).1 hx).1, ((hF.2 x).1 hx).2.1⟩, nodup_small hF.1 fun x hx => ⟨((hF.2 x).1 hx).1, ((hF.2 x).1 hx).2.1⟩⟩
def StQ (b s : Nat) (i : Nat) (v : Value) (W : World) : Prop := (i = 1 ∨ i = 3) → ∃ q, v = .slice q 1 1 ∧ W.ownsRow b 3 1 (.slice q 1 1) 1 (encI [(s : Int)])
theorem StQ_mono {b s : Nat} : ∀ i v W W', Ext W W' → StQ b s i v W → StQ b s i v W' := fun _ _ _ _ he h hi => let ⟨q, h1, h2⟩ := h hi; ⟨q, h1, he.own h2⟩
theorem made_bool (n : Nat) : (madeCells (Value.bool false).cells (n * 1)).toList = List.replicate n (.bool false) := by
  apply List.ext_getElem
  · simp [madeCells]
  · intro i h1 h2
    simp [madeCells, Value.cells, Nat.mod_one]
theorem infB : (Tryz.prog.info? 4).map (fun i => (i.zero, i.size, i.bytes)) = some (some (.bool false), 1, 1) := by kernel_rfl
set_option maxRecDepth 100000 in
set_option maxHeartbeats 16000000 in
theorem fronts_out (n1 : Nat) (hn1 : 1 ≤ n1) (po : Option Addr) (no co : Nat) (pt : Option Addr) (nt ct : Nat) (pr : Option Addr) (nr cr : Nat) (pv : Option Addr) (nv cv : Nat) (b1 b2 b3 n₀ n s : Nat) (nx : Nat → List Int) (w : World) (hw : n₀ ≤ w.heap.size)
    (hb1 : Blk w b1 136 #[.slice po no co, .slice pt nt ct, .slice pr nr cr, .slice pv nv cv]) (hb2 : Blk w b2 3 #[.int .i64 s]) (hb3 : Blk w b3 163 #[.func (.func 150) #[.agg #[.slice po no co, .slice pt nt ct, .slice pr nr cr, .slice pv nv cv]] #[]])
    (hs : s < n) (hn : n ≤ 200) (hno : no = n + 1) (hin : InN nx n)
    (HN : ∀ k, k < n → ∃ q c, ∀ W, Below n₀ w W → Rd W 1 q (nx k).length (encI (nx k)) ∧ Calls Tryz.prog 150 #[.agg #[.slice po no co, .slice pt nt ct, .slice pr nr cr, .slice pv nv cv], .int .i64 k] W fun e w' => e = .returned (.slice q (nx k).length c) ∧ Ext W w') :
    SeqA Fence.wide n1 Tryz.prog 128 #[.pointer (some ⟨b1, 0, none⟩), .pointer (some ⟨b2, 0, none⟩), .pointer (some ⟨b3, 0, none⟩)] (ylE : YlOf nx n s → Array Value) (ylA w.heap.size) (KpF n₀ w.heap.size b1 b2 b3) ylS (fun pre => pre.map (·.1.k) = List.range pre.length) n w := by
  intro l J Jx W hW hJ hJx hY h0
  obtain ⟨i0, hi0, hz0, hz1, hz2⟩ := info_parts infI
  obtain ⟨j0, hj0, hy0, hy1, hy2⟩ := info_parts infB
  have hBk := hW.size
  have q1 := hb1.lt
  have q2 := hb2.lt
  have q3 := hb3.lt
  have LW := Lib.hid (⟨hW.mono hw, hW.block b1 q1, hW.block b2 q2, hW.block b3 q3⟩ : LowF n₀ b1 b2 b3 w W)
  have HSZ := Lib.hid (fun W' => waysSize po no co pt nt ct pr nr cr pv nv cv W' (by omega) (by omega))
  have B1 : Blk W b1 136 #[.slice po no co, .slice pt nt ct, .slice pr nr cr, .slice pv nv cv] := LW.out.x1.trans hb1
  have B2 : Blk W b2 3 #[.int .i64 s] := LW.out.x2.trans hb2
  have B3 : Blk W b3 163 #[.func (.func 150) #[.agg #[.slice po no co, .slice pt nt ct, .slice pr nr cr, .slice pv nv cv]] #[]] := LW.out.x3.trans hb3
  have HB1 := Lib.hid hb1
  have HB2 := Lib.hid hb2
  have HB3 := Lib.hid hb3
  have HNX := Lib.hid HN
  have HIN := Lib.hid hin
  subst hno
  have HJ := Lib.hid hJ; clear hJ
  have HY := Lib.hid hY; clear hY
  clear hJx hW HN hin hb1 hb2 hb3
  have c10 := B1.cell 0
  have c11 := B1.cell 1
  have c12 := B1.cell 2
  have c13 := B1.cell 3
  have c20 := B2.cell 0
  have z1 := B1.lt
  have z2 := B2.lt
  clear B1 B2 B3
  refine callsIn_of_wp Tryz.func128 rfl trivial ?_ rfl
  simp only [Tryz.ntmps128, List.size_toArray, List.length_cons, List.length_nil, Nat.reduceAdd, Nat.reduceSub, Array.replicate_succ, Array.replicate_zero, List.push_toArray, List.append_toArray, List.nil_append, List.cons_append]
  refine wpIn_seq_k fun K hK => wpIn_wide.2 ?_
  go_wp2_with (first
    | (at_make; go_must (refine wpList_make_sep rfl _ _ _ rfl 4 j0 _ 1 Tryz.underlying183 hj0 hy0 hy1 (n:Int) n rfl rfl rfl (by rw [hy2]; omega) (by unfold maxLen; omega) S1.out ?_; intro w2 S'; rw [made_bool] at S'; have S2 := Lib.hid S'; clear S'))
    | (go_at_call 94; go_must (refine (HSZ.out _).mono ?_; rintro e w1 ⟨rfl, hb⟩; have S1 := Lib.hid ((Sep.start W).call hb); clear hb)))
  generalize hqs : (some ⟨w1.heap.size, 0, none⟩ : Option Addr) = qs at *
  clear hqs S1
  have pqs := (S2.out.rd 0 rfl (by omega)).ptr
  have c20a := S2.out.ext.cell c20
  have z2a := Nat.lt_of_lt_of_le z2 S2.out.ext.size
  have fz := own_frozen (S2.out.own 0 rfl) (by omega) s
  have cz := own_cell (S2.out.own 0 rfl) (k := s) (by omega)
  have d1 : (0:Int) ≤ s := by omega
  have d2 : (s:Int) < n := by omega
  refine wpIn_seq_k fun K2 hK2 => wpIn_wide.2 ?_
  go_wp2
  refine wpIn_seq_k fun K3 hK3 => wpIn_wide.2 ?_
  obtain ⟨X, hX⟩ : ∃ X, X = w2.setCell (adr qs s) (.bool true) := ⟨_, rfl⟩
  have SX := Lib.hid (hX ▸ (S2.out.setRow 0 rfl s (by omega) (.bool true)) : Sep W X _)
  rw [seenL_0 (nx := nx) hs] at SX
  rw [← hX]
  clear hX fz cz c20a z2a S2
  have g2 := SX.out.ext.cell c20
  have x2 := fun x : ExtOf X => x.ext.cell g2
  refine wp_region_mix [true, false, true, false] (StQ X.heap.size s) (by kernel_rfl) (by kernel_rfl) (by kernel_rfl) StQ_mono ?_
  simp only [nfM]
  repeat (go_big_quiet_step ((fail)))
  refine wpQuiet_nil ⟨⟨fun vs W1 hE hd => ?_, fun vs W1 hE hd => ?_, trivial⟩, fun vs W1 hE hkn => ?_⟩
  · simp [putM, execOp, go_sem]
    exact ⟨fun _ => ⟨_, rfl, World.ownsRow_lit (base := X.heap.size) W1 #[.int .i64 (s:Int)] 1 hE.size (by decide) rfl⟩, Ext.alloc (Below.refl _ _) _⟩
  · have k0 := hd 1 (by decide +kernel) rfl
    simp [putM, execOp, go_sem]
    exact ⟨fun _ => k0 (.inl rfl), Below.refl _ _⟩
  simp only [knowM] at hkn
  have k3 := hkn.2.1 (.inr rfl)
  simp only [putM, List.length_cons, List.length_nil, Nat.zero_add, Nat.reduceAdd, List.drop_succ_cons, List.drop_zero]
  obtain ⟨qf0, k1, ho⟩ := k3
  rw [k1]
  generalize vs 1 = v20
  have S4 := Lib.hid (SX.out.fresh hE ho (Nat.le_refl _))
  have J4 := Lib.hid (HJ.out [] W W W1 (Nat.le_refl _) (Below.refl _ _) S4.out.ext h0)
  have LW4 := Lib.hid (LW.out.far (Nat.le_trans hw hBk) (by omega) (by omega) (by omega) hBk (Below.refl _ _) S4.out.ext)
  clear x2 g2 hE hkn k1 ho SX h0
  simp [Act.put]
  go_wp2
  gi_wp2
  gi_loopw [6, 7, 8, 10, 12] (fun v6 v7 _ _ _ wr => ∃ (k : Nat) (pre : List (YlOf nx n s)) (F : List Int) (q : Option Addr) (c : Nat) (Z : World), k ≤ n ∧ Z.heap.size = W.heap.size ∧ v6 = .int .i64 k ∧ v7 = .slice q F.length c ∧ IsFront (lev nx n s) n k F ∧ pre.map (·.1.k) = List.range k ∧ J pre wr ∧ Sep Z wr [.own 3 1 q F.length c (encI F), .own 4 1 qs n n (seenL (cutL (lev nx n s) n k) [] n)] ∧ LowF n₀ b1 b2 b3 w wr) (fun v6 _ _ _ _ _ => n - (intOf v6).toNat)
  case atStart => exact ⟨0, [], [(s:Int)], qf0, 1, W, Nat.zero_le _, rfl, rfl, rfl, front_0 hs, rfl, J4.out, S4.out, LW4.out⟩
  case round =>
    clear S4 J4 LW4 c10 c11 c12 c13 c20 z1 z2
    obtain ⟨k, pre, F, q, c, Z, hk, hZ, rfl, rfl, hF, hpre, hJs, S, hL⟩ := hrel
    have bF := Lib.hid (front_bd8 hF)
    by_cases hl0 : F.length = 0
    · obtain rfl : F = [] := List.eq_nil_of_length_eq_zero hl0
      have HEND : Hid (ylS pre) := ⟨by rw [hpre]; congr 1; have := congrArg List.length hpre; simp at this; omega, by
        have := congrArg List.length hpre
        simp at this
        rw [this]
        cases e : hasL n (lev nx n s) k with
        | false => rfl
        | true => exact absurd ((front_has hF).1 e) (by simp)⟩
      have HJs := Lib.hid hJs
      clear hF hpre hJs hL bF hl0 S
      gi_wp2
      refine ⟨fun f hf => (by cases hf), ?_⟩
      gi_wp2
      go_end0
      exact ⟨⟨_, rfl⟩, .inl ⟨pre, HEND.out, HJs.out⟩⟩
    · have lf : 0 < F.length := by omega
      have hkn : k < n := has_lt hs ((front_has hF).2 lf)
      have hB := S.blt 0 rfl lf
      have hplen : pre.length = k := by have := congrArg List.length hpre; simpa using this
      obtain ⟨x, hx⟩ : ∃ x : YlOf nx n s, x.1 = ⟨k, F, q, c⟩ := ⟨⟨⟨k, F, q, c⟩, hF, lf⟩, rfl⟩
      obtain ⟨fn, tmps, assign, body, hy, hR⟩ := HY.out pre x wr hJs (by unfold ylA; rw [hx]; exact ⟨S.rdx 0 rfl, by have := hB.1; show w.heap.size ≤ (adr q 0).block; omega⟩) (by omega)
      have hp2 : Hid ((pre ++ [x]).map (·.1.k) = List.range (k + 1)) := by
        unfold Hid; rw [List.map_append, hpre, List.range_succ]; simp [hx]
      have hxe : ylE x = #[.int .i64 k, .slice q F.length c] := by unfold ylE; rw [hx]
      rw [hxe] at hy
      clear hxe hx
      have c1 : decide ((0:Int) < F.length) = true := by simpa using lf
      have HF := Lib.hid hF
      have HLW := Lib.hid hL
      have SH := Lib.hid S; clear S
      clear hF hL hpre hplen hl0 hJs hB
      gi_wp2
      refine hR.mono ?_
      rintro e W3 (⟨rfl, hJ3, hk3⟩ | ⟨rfl, hJx3⟩)
      · have hs3 : W.heap.size ≤ W3.heap.size := by have := SH.out.ext.size; have := hk3.low.size; omega
        have S3 := Lib.hid (SH.out.rebase hZ hs3 (fun p hp kk hkk => by
          have hpc : p.cells := cells_all (Γ := [.own 3 1 q F.length c (encI F), .own 4 1 qs n n (seenL (cutL (lev nx n s) n k) [] n)]) (fun p hp => by
            simp only [List.mem_cons, List.not_mem_nil, or_false] at hp
            rcases hp with rfl | rfl <;> exact .inr ⟨_, _, _, _, _, _, rfl⟩) p hp
          obtain ⟨o, h1, h2⟩ := hpc wr (SH.out.all p hp) kk hkk
          have h3 := SH.out.new p hp kk hkk
          rw [h1]; exact hk3.up kk o (by omega) h1 h2))
        have L3 := Lib.hid (⟨HLW.out.low.trans hk3.low, hk3.x1.trans HLW.out.x1, hk3.x2.trans HLW.out.x2, hk3.x3.trans HLW.out.x3⟩ : LowF n₀ b1 b2 b3 w W3)
        have HJ3 := Lib.hid hJ3
        have hZ3 : (cutW W.heap.size W3).heap.size = W.heap.size := cutW_size hs3
        have HZb := Lib.hid (cutW_below hs3)
        generalize cutW W.heap.size W3 = Z3 at *
        have HLOW : Hid (∀ wx Γ, Sep Z3 wx Γ → LowF n₀ b1 b2 b3 w wx) := fun wx Γ S => L3.out.far (Nat.le_trans hw hBk) (by omega) (by omega) (by omega) (by omega) HZb.out (by have := S.ext; rwa [Ext, hZ3] at this)
        have HSML : Hid (∀ (G m : List Int), (∀ x : Int, x ∈ G → 0 ≤ x ∧ x < n) → (∀ x : Int, x ∈ m → 0 ≤ x ∧ x < n) → (ahR (cutL (lev nx n s) n k) m (ahF nx (cutL (lev nx n s) n k) G [])).length ≤ n) := fun G m hG hm =>
          nodup_small (ahR_nodup (ahF_nodup List.nodup_nil)) fun x hx => by
            rcases ahR_mem.1 hx with h | ⟨h, _⟩
            · rcases ahF_mem.1 h with h | ⟨v, h3, h4, _⟩
              · cases h
              · obtain ⟨h5, h6⟩ := hG v h3
                exact HIN.out v.toNat (by omega) x h4
            · exact hm x h
        clear SH hJ3 hk3 hR hy HLW
        gi_wp2
        refine wpIn_wide.2 ?_
        go_loopw [8, 10, 12, 34] (fun v8 _ _ v34 wx => ∃ (i : Nat) (l' : List Int) (q2 : Option Addr) (c2 : Nat), i ≤ F.length ∧ v34 = .int .i64 i ∧ v8 = .slice q2 l'.length c2 ∧ Hid (l' = ahF nx (cutL (lev nx n s) n k) (F.take i) []) ∧ Sep Z3 wx [.own 3 1 q2 l'.length c2 (encI l'), .own 3 1 q F.length c (encI F), .own 4 1 qs n n (seenL (cutL (lev nx n s) n k) l' n)]) (fun _ _ _ v34 _ => F.length - (intOf v34).toNat)
        case atStart => exact ⟨0, [], none, 0, Nat.zero_le _, rfl, rfl, rfl, S3.out.nilrow 3 1⟩
        case round =>
          clear S3
          obtain ⟨i, l', q2, c2, hi, rfl, rfl, hl, S⟩ := hrel
          have pF := (S.rdx 1 rfl).ptr
          have hF200 : F.length ≤ 200 := by have := bF.out.2; omega
          by_cases hif : i < F.length
          · have g1 := (S.rdx 1 rfl).cI hif
            obtain ⟨f1, f2⟩ := bF.out.1 _ (nth_mem hif)
            have hT := ahF_take (nx := nx) (X := cutL (lev nx n s) n k) (l := []) hif
            rw [← hl.out] at hT
            have hsm : ∀ j (m : List Int), m = (nx (nth F i).toNat).take j → (ahR (cutL (lev nx n s) n k) m l').length ≤ n := fun j m hm => by
              rw [hl.out]
              refine HSML.out _ m (fun x hx => bF.out.1 x (List.mem_of_mem_take hx)) fun x hx => ?_
              rw [hm] at hx
              exact HIN.out _ (by omega) x (List.mem_of_mem_take hx)
            obtain ⟨a, ha⟩ : ∃ a : Nat, nth F i = (a : Int) := ⟨(nth F i).toNat, by omega⟩
            rw [ha] at g1 f1 f2 hT hsm
            rw [Int.toNat_natCast] at hT hsm
            have HT := Lib.hid hT
            have HS := Lib.hid hsm
            have HRB := Lib.hid (HIN.out a (by omega))
            obtain ⟨qr, crr, hW⟩ := HNX.out a (by omega)
            have HWW := Lib.hid hW
            have hb3' : Blk wr b3 163 #[.func (.func 150) #[.agg #[.slice po (n + 1) co, .slice pt nt ct, .slice pr nr cr, .slice pv nv cv]] #[]] := (HLOW.out _ _ S).x3.trans HB3.out
            have b3c := hb3'.cell 0
            have b3z := hb3'.lt
            clear hb3'
            have HC := Lib.hid (hW wr (HLOW.out _ _ S).low).2
            have e1 : (0:Int) ≤ i := by omega
            have e2 : (i:Int) < F.length := by omega
            generalize nx a = RW at *
            have SH := Lib.hid S; clear S
            clear ha hT hsm hW hl
            go_wp2_with (go_at_call 150; go_must (refine HC.out.mono ?_; rintro e w5 ⟨rfl, hb⟩; have S5 := Lib.hid (SH.out.call hb); clear hb))
            have nrw := (HWW.out _ (HLOW.out _ _ S5.out).low).1.small
            have prw := (HWW.out _ (HLOW.out _ _ S5.out).low).1.ptr
            go_loopw [8, 12, 42] (fun v8 _ v42 wx => ∃ (j : Nat) (l2 : List Int) (q3 : Option Addr) (c3 : Nat), j ≤ RW.length ∧ v42 = .int .i64 j ∧ v8 = .slice q3 l2.length c3 ∧ Hid (l2 = ahR (cutL (lev nx n s) n k) (RW.take j) l') ∧ Sep Z3 wx [.own 3 1 q3 l2.length c3 (encI l2), .own 3 1 q F.length c (encI F), .own 4 1 qs n n (seenL (cutL (lev nx n s) n k) l2 n)]) (fun _ _ v42 _ => RW.length - (intOf v42).toNat)
            case atStart => exact ⟨0, l', q2, c2, Nat.zero_le _, rfl, rfl, rfl, S5.out⟩
            case round =>
              clear SH S5 HC b3c b3z g1
              obtain ⟨j, l2, q3, c3, hj, rfl, rfl, hl2, S⟩ := hrel
              by_cases hlj : j < RW.length
              · have g1 := (HWW.out _ (HLOW.out _ _ S).low).1.cI hlj
                obtain ⟨r1, r2⟩ := HRB.out _ (nth_mem hlj)
                have hst := ahR_take (X := cutL (lev nx n s) n k) (l := l') hlj
                rw [← hl2.out] at hst
                have hlen := HS.out j _ rfl
                rw [← hl2.out] at hlen
                obtain ⟨b, hb⟩ : ∃ b : Nat, nth RW j = (b : Int) := ⟨(nth RW j).toNat, by omega⟩
                rw [hb] at g1 r1 r2 hst
                have e3 : (0:Int) ≤ j := by omega
                have e4 : (j:Int) < RW.length := by omega
                have ps := (S.rdx 2 rfl).ptr
                have pq3 := (S.rdx 0 rfl).ptr
                have fz := own_frozen (S.own 2 rfl) (by omega) b
                have cz := own_cell (S.own 2 rfl) (k := b) (by omega)
                have hat := seenL_at (X := cutL (lev nx n s) n k) (l := l2) (n := n) (v := b) (by omega)
                have hnn : 0 ≤ b ∧ (b:Int) < n := ⟨by omega, r2⟩
                clear hl2 hb
                cases hsn : (decide (0 ≤ nth (cutL (lev nx n s) n k) b) || decide ((b : Int) ∈ l2)) with
                | true =>
                  have HST : Hid (ahR (cutL (lev nx n s) n k) (RW.take (j + 1)) l' = l2) := by
                    unfold Hid; rw [hst]; unfold ah1; rw [if_neg]
                    rw [Int.toNat_natCast]
                    rw [Bool.or_eq_true, decide_eq_true_eq, decide_eq_true_eq] at hsn
                    rintro ⟨h1, h2⟩
                    rcases hsn with h | h
                    · omega
                    · exact h2 h
                  rw [hsn] at hat
                  rw [List.getD_eq_getElem?_getD, hat, Option.getD_some] at cz
                  have SH := Lib.hid S; clear S
                  clear hst hat hsn fz
                  go_wp2
                  go_roundw
                  case rel => exact ⟨j + 1, l2, q3, c3, by omega, by go_num, rfl, HST.out.symm, SH.out⟩
                  case measure => simp [intOf]; omega
                | false =>
                  have HST : Hid (ahR (cutL (lev nx n s) n k) (RW.take (j + 1)) l' = l2 ++ [(b:Int)]) := by
                    unfold Hid; rw [hst]; unfold ah1; rw [if_pos]
                    rw [Int.toNat_natCast]
                    rw [Bool.or_eq_false_iff, decide_eq_false_iff_not, decide_eq_false_iff_not] at hsn
                    exact ⟨by omega, hsn.2⟩
                  rw [hsn] at hat
                  rw [List.getD_eq_getElem?_getD, hat, Option.getD_some] at cz
                  have hnb : b < n := by omega
                  have SH := Lib.hid S; clear S
                  clear hst hat hsn
                  have HR1 : Hid (Rd ((wr.setCell (adr qs b) (.bool true)).alloc (.cells #[.int .i64 (b:Int)] 3)) 1 (some ⟨wr.heap.size, 0, none⟩) 1 (encI [(b:Int)])) := by
                    have h := Rd.oneI (wr.setCell (adr qs b) (.bool true)) 3 (b:Int)
                    have e : (wr.setCell (adr qs b) (.bool true)).heap.size = wr.heap.size := by simp
                    rw [e] at h; exact h
                  go_wp2_with (at_builtin; go_must (refine wpList_append_sep rfl _ _ _ rfl 3 i0 _ 1 8 Tryz.underlying39 hi0 hz0 hz1 hz2 rfl (by omega) ((SH.out.setRow 2 rfl b (by omega) (.bool true)).junk _) 0 q3 l2.length c3 _ rfl rfl _ 1 1 _ rfl HR1.out (one_encI _) (by omega) (by omega) ?_; intro q' c' w7 S' hsz; have S6 := Lib.hid S'; clear S' hsz))
                  go_roundw
                  case rel => exact ⟨j + 1, l2 ++ [(b:Int)], q', c', by omega, by go_num, by rw [List.length_append]; rfl, HST.out.symm, by rw [List.length_append, encI_append, ← seenL_set hnb]; exact S6.out⟩
                  case measure => simp [intOf]; omega
              · obtain rfl : j = RW.length := by omega
                have HL2 : Hid (l2 = ahF nx (cutL (lev nx n s) n k) (F.take (i + 1)) []) := by
                  unfold Hid; rw [HT.out, hl2.out, List.take_length]
                have SH := Lib.hid S; clear S
                clear hl2
                go_wp2
                go_roundw
                case rel => exact ⟨i + 1, l2, q3, c3, by omega, by go_num, rfl, HL2.out, SH.out⟩
                case measure => simp [intOf]; omega
          · obtain rfl : i = F.length := by omega
            have hl' := hl.out
            rw [List.take_length] at hl'
            have hF2 : IsFront (lev nx n s) n ((k + 1 : Nat) : Int) l' := by
              rw [hl']
              exact front_next hs HIN.out HF.out fun v hv => by rw [cutL_nth hv]; exact cut_lt
            rw [seenL_next hF2] at S
            have HF2 := Lib.hid hF2
            have HLX := Lib.hid (HLOW.out _ _ S)
            have HJX := Lib.hid (HJ.out _ Z3 W3 wr (by omega) HZb.out (by have := S.ext; rwa [Ext, hZ3] at this) HJ3.out)
            have SH := Lib.hid S; clear S
            clear hl hl' hF2
            go_wp2
            gi_wp2
            go_roundw
            case rel => exact ⟨k + 1, _, l', q2, c2, Z3, by omega, hZ3, by go_num, rfl, HF2.out, hp2.out, HJX.out, SH.out.pick [0, 2] (by decide) rfl, HLX.out⟩
            case measure => simp [intOf]; omega
      · have HX3 := Lib.hid hJx3
        clear hJx3
        gi_wp2
        go_end0
        exact ⟨⟨_, rfl⟩, .inr ⟨_, by
          have h := hp2.out
          have h2 := congrArg List.length h
          rw [List.length_map, List.length_range] at h2
          rw [h, h2], HX3.out⟩⟩
set_option maxRecDepth 100000 in
set_option maxHeartbeats 16000000 in
theorem fronts_in (n1 : Nat) (hn1 : 1 ≤ n1) (po : Option Addr) (no co : Nat) (pt : Option Addr) (nt ct : Nat) (pr : Option Addr) (nr cr : Nat) (pv : Option Addr) (nv cv : Nat) (b1 b2 b3 n₀ n s : Nat) (nx : Nat → List Int) (w : World) (hw : n₀ ≤ w.heap.size)
    (hb1 : Blk w b1 136 #[.slice po no co, .slice pt nt ct, .slice pr nr cr, .slice pv nv cv]) (hb2 : Blk w b2 3 #[.int .i64 s]) (hb3 : Blk w b3 163 #[.func (.func 149) #[.agg #[.slice po no co, .slice pt nt ct, .slice pr nr cr, .slice pv nv cv]] #[]])
    (hs : s < n) (hn : n ≤ 200) (hno : no = n + 1) (hin : InN nx n)
    (HN : ∀ k, k < n → ∃ q c, ∀ W, Below n₀ w W → Rd W 1 q (nx k).length (encI (nx k)) ∧ Calls Tryz.prog 149 #[.agg #[.slice po no co, .slice pt nt ct, .slice pr nr cr, .slice pv nv cv], .int .i64 k] W fun e w' => e = .returned (.slice q (nx k).length c) ∧ Ext W w') :
    SeqA Fence.wide n1 Tryz.prog 128 #[.pointer (some ⟨b1, 0, none⟩), .pointer (some ⟨b2, 0, none⟩), .pointer (some ⟨b3, 0, none⟩)] (ylE : YlOf nx n s → Array Value) (ylA w.heap.size) (KpF n₀ w.heap.size b1 b2 b3) ylS (fun pre => pre.map (·.1.k) = List.range pre.length) n w := by
  intro l J Jx W hW hJ hJx hY h0
  obtain ⟨i0, hi0, hz0, hz1, hz2⟩ := info_parts infI
  obtain ⟨j0, hj0, hy0, hy1, hy2⟩ := info_parts infB
  have hBk := hW.size
  have q1 := hb1.lt
  have q2 := hb2.lt
  have q3 := hb3.lt
  have LW := Lib.hid (⟨hW.mono hw, hW.block b1 q1, hW.block b2 q2, hW.block b3 q3⟩ : LowF n₀ b1 b2 b3 w W)
  have HSZ := Lib.hid (fun W' => waysSize po no co pt nt ct pr nr cr pv nv cv W' (by omega) (by omega))
  have B1 : Blk W b1 136 #[.slice po no co, .slice pt nt ct, .slice pr nr cr, .slice pv nv cv] := LW.out.x1.trans hb1
  have B2 : Blk W b2 3 #[.int .i64 s] := LW.out.x2.trans hb2
  have B3 : Blk W b3 163 #[.func (.func 149) #[.agg #[.slice po no co, .slice pt nt ct, .slice pr nr cr, .slice pv nv cv]] #[]] := LW.out.x3.trans hb3
  have HB1 := Lib.hid hb1
  have HB2 := Lib.hid hb2
  have HB3 := Lib.hid hb3
  have HNX := Lib.hid HN
  have HIN := Lib.hid hin
  subst hno
  have HJ := Lib.hid hJ; clear hJ
  have HY := Lib.hid hY; clear hY
  clear hJx hW HN hin hb1 hb2 hb3
  have c10 := B1.cell 0
  have c11 := B1.cell 1
  have c12 := B1.cell 2
  have c13 := B1.cell 3
  have c20 := B2.cell 0
  have z1 := B1.lt
  have z2 := B2.lt
  clear B1 B2 B3
  refine callsIn_of_wp Tryz.func128 rfl trivial ?_ rfl
  simp only [Tryz.ntmps128, List.size_toArray, List.length_cons, List.length_nil, Nat.reduceAdd, Nat.reduceSub, Array.replicate_succ, Array.replicate_zero, List.push_toArray, List.append_toArray, List.nil_append, List.cons_append]
  refine wpIn_seq_k fun K hK => wpIn_wide.2 ?_
  go_wp2_with (first
    | (at_make; go_must (refine wpList_make_sep rfl _ _ _ rfl 4 j0 _ 1 Tryz.underlying183 hj0 hy0 hy1 (n:Int) n rfl rfl rfl (by rw [hy2]; omega) (by unfold maxLen; omega) S1.out ?_; intro w2 S'; rw [made_bool] at S'; have S2 := Lib.hid S'; clear S'))
    | (go_at_call 94; go_must (refine (HSZ.out _).mono ?_; rintro e w1 ⟨rfl, hb⟩; have S1 := Lib.hid ((Sep.start W).call hb); clear hb)))
  generalize hqs : (some ⟨w1.heap.size, 0, none⟩ : Option Addr) = qs at *
  clear hqs S1
  have pqs := (S2.out.rd 0 rfl (by omega)).ptr
  have c20a := S2.out.ext.cell c20
  have z2a := Nat.lt_of_lt_of_le z2 S2.out.ext.size
  have fz := own_frozen (S2.out.own 0 rfl) (by omega) s
  have cz := own_cell (S2.out.own 0 rfl) (k := s) (by omega)
  have d1 : (0:Int) ≤ s := by omega
  have d2 : (s:Int) < n := by omega
  refine wpIn_seq_k fun K2 hK2 => wpIn_wide.2 ?_
  go_wp2
  refine wpIn_seq_k fun K3 hK3 => wpIn_wide.2 ?_
  obtain ⟨X, hX⟩ : ∃ X, X = w2.setCell (adr qs s) (.bool true) := ⟨_, rfl⟩
  have SX := Lib.hid (hX ▸ (S2.out.setRow 0 rfl s (by omega) (.bool true)) : Sep W X _)
  rw [seenL_0 (nx := nx) hs] at SX
  rw [← hX]
  clear hX fz cz c20a z2a S2
  have g2 := SX.out.ext.cell c20
  have x2 := fun x : ExtOf X => x.ext.cell g2
  refine wp_region_mix [true, false, true, false] (StQ X.heap.size s) (by kernel_rfl) (by kernel_rfl) (by kernel_rfl) StQ_mono ?_
  simp only [nfM]
  repeat (go_big_quiet_step ((fail)))
  refine wpQuiet_nil ⟨⟨fun vs W1 hE hd => ?_, fun vs W1 hE hd => ?_, trivial⟩, fun vs W1 hE hkn => ?_⟩
  · simp [putM, execOp, go_sem]
    exact ⟨fun _ => ⟨_, rfl, World.ownsRow_lit (base := X.heap.size) W1 #[.int .i64 (s:Int)] 1 hE.size (by decide) rfl⟩, Ext.alloc (Below.refl _ _) _⟩
  · have k0 := hd 1 (by decide +kernel) rfl
    simp [putM, execOp, go_sem]
    exact ⟨fun _ => k0 (.inl rfl), Below.refl _ _⟩
  simp only [knowM] at hkn
  have k3 := hkn.2.1 (.inr rfl)
  simp only [putM, List.length_cons, List.length_nil, Nat.zero_add, Nat.reduceAdd, List.drop_succ_cons, List.drop_zero]
  obtain ⟨qf0, k1, ho⟩ := k3
  rw [k1]
  generalize vs 1 = v20
  have S4 := Lib.hid (SX.out.fresh hE ho (Nat.le_refl _))
  have J4 := Lib.hid (HJ.out [] W W W1 (Nat.le_refl _) (Below.refl _ _) S4.out.ext h0)
  have LW4 := Lib.hid (LW.out.far (Nat.le_trans hw hBk) (by omega) (by omega) (by omega) hBk (Below.refl _ _) S4.out.ext)
  clear x2 g2 hE hkn k1 ho SX h0
  simp [Act.put]
  go_wp2
  gi_wp2
  gi_loopw [6, 7, 8, 10, 12] (fun v6 v7 _ _ _ wr => ∃ (k : Nat) (pre : List (YlOf nx n s)) (F : List Int) (q : Option Addr) (c : Nat) (Z : World), k ≤ n ∧ Z.heap.size = W.heap.size ∧ v6 = .int .i64 k ∧ v7 = .slice q F.length c ∧ IsFront (lev nx n s) n k F ∧ pre.map (·.1.k) = List.range k ∧ J pre wr ∧ Sep Z wr [.own 3 1 q F.length c (encI F), .own 4 1 qs n n (seenL (cutL (lev nx n s) n k) [] n)] ∧ LowF n₀ b1 b2 b3 w wr) (fun v6 _ _ _ _ _ => n - (intOf v6).toNat)
  case atStart => exact ⟨0, [], [(s:Int)], qf0, 1, W, Nat.zero_le _, rfl, rfl, rfl, front_0 hs, rfl, J4.out, S4.out, LW4.out⟩
  case round =>
    clear S4 J4 LW4 c10 c11 c12 c13 c20 z1 z2
    obtain ⟨k, pre, F, q, c, Z, hk, hZ, rfl, rfl, hF, hpre, hJs, S, hL⟩ := hrel
    have bF := Lib.hid (front_bd8 hF)
    by_cases hl0 : F.length = 0
    · obtain rfl : F = [] := List.eq_nil_of_length_eq_zero hl0
      have HEND : Hid (ylS pre) := ⟨by rw [hpre]; congr 1; have := congrArg List.length hpre; simp at this; omega, by
        have := congrArg List.length hpre
        simp at this
        rw [this]
        cases e : hasL n (lev nx n s) k with
        | false => rfl
        | true => exact absurd ((front_has hF).1 e) (by simp)⟩
      have HJs := Lib.hid hJs
      clear hF hpre hJs hL bF hl0 S
      gi_wp2
      refine ⟨fun f hf => (by cases hf), ?_⟩
      gi_wp2
      go_end0
      exact ⟨⟨_, rfl⟩, .inl ⟨pre, HEND.out, HJs.out⟩⟩
    · have lf : 0 < F.length := by omega
      have hkn : k < n := has_lt hs ((front_has hF).2 lf)
      have hB := S.blt 0 rfl lf
      have hplen : pre.length = k := by have := congrArg List.length hpre; simpa using this
      obtain ⟨x, hx⟩ : ∃ x : YlOf nx n s, x.1 = ⟨k, F, q, c⟩ := ⟨⟨⟨k, F, q, c⟩, hF, lf⟩, rfl⟩
      obtain ⟨fn, tmps, assign, body, hy, hR⟩ := HY.out pre x wr hJs (by unfold ylA; rw [hx]; exact ⟨S.rdx 0 rfl, by have := hB.1; show w.heap.size ≤ (adr q 0).block; omega⟩) (by omega)
      have hp2 : Hid ((pre ++ [x]).map (·.1.k) = List.range (k + 1)) := by
        unfold Hid; rw [List.map_append, hpre, List.range_succ]; simp [hx]
      have hxe : ylE x = #[.int .i64 k, .slice q F.length c] := by unfold ylE; rw [hx]
      rw [hxe] at hy
      clear hxe hx
      have c1 : decide ((0:Int) < F.length) = true := by simpa using lf
      have HF := Lib.hid hF
      have HLW := Lib.hid hL
      have SH := Lib.hid S; clear S
      clear hF hL hpre hplen hl0 hJs hB
      gi_wp2
      refine hR.mono ?_
      rintro e W3 (⟨rfl, hJ3, hk3⟩ | ⟨rfl, hJx3⟩)
      · have hs3 : W.heap.size ≤ W3.heap.size := by have := SH.out.ext.size; have := hk3.low.size; omega
        have S3 := Lib.hid (SH.out.rebase hZ hs3 (fun p hp kk hkk => by
          have hpc : p.cells := cells_all (Γ := [.own 3 1 q F.length c (encI F), .own 4 1 qs n n (seenL (cutL (lev nx n s) n k) [] n)]) (fun p hp => by
            simp only [List.mem_cons, List.not_mem_nil, or_false] at hp
            rcases hp with rfl | rfl <;> exact .inr ⟨_, _, _, _, _, _, rfl⟩) p hp
          obtain ⟨o, h1, h2⟩ := hpc wr (SH.out.all p hp) kk hkk
          have h3 := SH.out.new p hp kk hkk
          rw [h1]; exact hk3.up kk o (by omega) h1 h2))
        have L3 := Lib.hid (⟨HLW.out.low.trans hk3.low, hk3.x1.trans HLW.out.x1, hk3.x2.trans HLW.out.x2, hk3.x3.trans HLW.out.x3⟩ : LowF n₀ b1 b2 b3 w W3)
        have HJ3 := Lib.hid hJ3
        have hZ3 : (cutW W.heap.size W3).heap.size = W.heap.size := cutW_size hs3
        have HZb := Lib.hid (cutW_below hs3)
        generalize cutW W.heap.size W3 = Z3 at *
        have HLOW : Hid (∀ wx Γ, Sep Z3 wx Γ → LowF n₀ b1 b2 b3 w wx) := fun wx Γ S => L3.out.far (Nat.le_trans hw hBk) (by omega) (by omega) (by omega) (by omega) HZb.out (by have := S.ext; rwa [Ext, hZ3] at this)
        have HSML : Hid (∀ (G m : List Int), (∀ x : Int, x ∈ G → 0 ≤ x ∧ x < n) → (∀ x : Int, x ∈ m → 0 ≤ x ∧ x < n) → (ahR (cutL (lev nx n s) n k) m (ahF nx (cutL (lev nx n s) n k) G [])).length ≤ n) := fun G m hG hm =>
          nodup_small (ahR_nodup (ahF_nodup List.nodup_nil)) fun x hx => by
            rcases ahR_mem.1 hx with h | ⟨h, _⟩
            · rcases ahF_mem.1 h with h | ⟨v, h3, h4, _⟩
              · cases h
              · obtain ⟨h5, h6⟩ := hG v h3
                exact HIN.out v.toNat (by omega) x h4
            · exact hm x h
        clear SH hJ3 hk3 hR hy HLW
        gi_wp2
        refine wpIn_wide.2 ?_
        go_loopw [8, 10, 12, 34] (fun v8 _ _ v34 wx => ∃ (i : Nat) (l' : List Int) (q2 : Option Addr) (c2 : Nat), i ≤ F.length ∧ v34 = .int .i64 i ∧ v8 = .slice q2 l'.length c2 ∧ Hid (l' = ahF nx (cutL (lev nx n s) n k) (F.take i) []) ∧ Sep Z3 wx [.own 3 1 q2 l'.length c2 (encI l'), .own 3 1 q F.length c (encI F), .own 4 1 qs n n (seenL (cutL (lev nx n s) n k) l' n)]) (fun _ _ _ v34 _ => F.length - (intOf v34).toNat)
        case atStart => exact ⟨0, [], none, 0, Nat.zero_le _, rfl, rfl, rfl, S3.out.nilrow 3 1⟩
        case round =>
          clear S3
          obtain ⟨i, l', q2, c2, hi, rfl, rfl, hl, S⟩ := hrel
          have pF := (S.rdx 1 rfl).ptr
          have hF200 : F.length ≤ 200 := by have := bF.out.2; omega
          by_cases hif : i < F.length
          · have g1 := (S.rdx 1 rfl).cI hif
            obtain ⟨f1, f2⟩ := bF.out.1 _ (nth_mem hif)
            have hT := ahF_take (nx := nx) (X := cutL (lev nx n s) n k) (l := []) hif
            rw [← hl.out] at hT
            have hsm : ∀ j (m : List Int), m = (nx (nth F i).toNat).take j → (ahR (cutL (lev nx n s) n k) m l').length ≤ n := fun j m hm => by
              rw [hl.out]
              refine HSML.out _ m (fun x hx => bF.out.1 x (List.mem_of_mem_take hx)) fun x hx => ?_
              rw [hm] at hx
              exact HIN.out _ (by omega) x (List.mem_of_mem_take hx)
            obtain ⟨a, ha⟩ : ∃ a : Nat, nth F i = (a : Int) := ⟨(nth F i).toNat, by omega⟩
            rw [ha] at g1 f1 f2 hT hsm
            rw [Int.toNat_natCast] at hT hsm
            have HT := Lib.hid hT
            have HS := Lib.hid hsm
            have HRB := Lib.hid (HIN.out a (by omega))
            obtain ⟨qr, crr, hW⟩ := HNX.out a (by omega)
            have HWW := Lib.hid hW
            have hb3' : Blk wr b3 163 #[.func (.func 149) #[.agg #[.slice po (n + 1) co, .slice pt nt ct, .slice pr nr cr, .slice pv nv cv]] #[]] := (HLOW.out _ _ S).x3.trans HB3.out
            have b3c := hb3'.cell 0
            have b3z := hb3'.lt
            clear hb3'
            have HC := Lib.hid (hW wr (HLOW.out _ _ S).low).2
            have e1 : (0:Int) ≤ i := by omega
            have e2 : (i:Int) < F.length := by omega
            generalize nx a = RW at *
            have SH := Lib.hid S; clear S
            clear ha hT hsm hW hl
            go_wp2_with (go_at_call 149; go_must (refine HC.out.mono ?_; rintro e w5 ⟨rfl, hb⟩; have S5 := Lib.hid (SH.out.call hb); clear hb))
            have nrw := (HWW.out _ (HLOW.out _ _ S5.out).low).1.small
            have prw := (HWW.out _ (HLOW.out _ _ S5.out).low).1.ptr
            go_loopw [8, 12, 42] (fun v8 _ v42 wx => ∃ (j : Nat) (l2 : List Int) (q3 : Option Addr) (c3 : Nat), j ≤ RW.length ∧ v42 = .int .i64 j ∧ v8 = .slice q3 l2.length c3 ∧ Hid (l2 = ahR (cutL (lev nx n s) n k) (RW.take j) l') ∧ Sep Z3 wx [.own 3 1 q3 l2.length c3 (encI l2), .own 3 1 q F.length c (encI F), .own 4 1 qs n n (seenL (cutL (lev nx n s) n k) l2 n)]) (fun _ _ v42 _ => RW.length - (intOf v42).toNat)
            case atStart => exact ⟨0, l', q2, c2, Nat.zero_le _, rfl, rfl, rfl, S5.out⟩
            case round =>
              clear SH S5 HC b3c b3z g1
              obtain ⟨j, l2, q3, c3, hj, rfl, rfl, hl2, S⟩ := hrel
              by_cases hlj : j < RW.length
              · have g1 := (HWW.out _ (HLOW.out _ _ S).low).1.cI hlj
                obtain ⟨r1, r2⟩ := HRB.out _ (nth_mem hlj)
                have hst := ahR_take (X := cutL (lev nx n s) n k) (l := l') hlj
                rw [← hl2.out] at hst
                have hlen := HS.out j _ rfl
                rw [← hl2.out] at hlen
                obtain ⟨b, hb⟩ : ∃ b : Nat, nth RW j = (b : Int) := ⟨(nth RW j).toNat, by omega⟩
                rw [hb] at g1 r1 r2 hst
                have e3 : (0:Int) ≤ j := by omega
                have e4 : (j:Int) < RW.length := by omega
                have ps := (S.rdx 2 rfl).ptr
                have pq3 := (S.rdx 0 rfl).ptr
                have fz := own_frozen (S.own 2 rfl) (by omega) b
                have cz := own_cell (S.own 2 rfl) (k := b) (by omega)
                have hat := seenL_at (X := cutL (lev nx n s) n k) (l := l2) (n := n) (v := b) (by omega)
                have hnn : 0 ≤ b ∧ (b:Int) < n := ⟨by omega, r2⟩
                clear hl2 hb
                cases hsn : (decide (0 ≤ nth (cutL (lev nx n s) n k) b) || decide ((b : Int) ∈ l2)) with
                | true =>
                  have HST : Hid (ahR (cutL (lev nx n s) n k) (RW.take (j + 1)) l' = l2) := by
                    unfold Hid; rw [hst]; unfold ah1; rw [if_neg]
                    rw [Int.toNat_natCast]
                    rw [Bool.or_eq_true, decide_eq_true_eq, decide_eq_true_eq] at hsn
                    rintro ⟨h1, h2⟩
                    rcases hsn with h | h
                    · omega
                    · exact h2 h
                  rw [hsn] at hat
                  rw [List.getD_eq_getElem?_getD, hat, Option.getD_some] at cz
                  have SH := Lib.hid S; clear S
                  clear hst hat hsn fz
                  go_wp2
                  go_roundw
                  case rel => exact ⟨j + 1, l2, q3, c3, by omega, by go_num, rfl, HST.out.symm, SH.out⟩
                  case measure => simp [intOf]; omega
                | false =>
                  have HST : Hid (ahR (cutL (lev nx n s) n k) (RW.take (j + 1)) l' = l2 ++ [(b:Int)]) := by
                    unfold Hid; rw [hst]; unfold ah1; rw [if_pos]
                    rw [Int.toNat_natCast]
                    rw [Bool.or_eq_false_iff, decide_eq_false_iff_not, decide_eq_false_iff_not] at hsn
                    exact ⟨by omega, hsn.2⟩
                  rw [hsn] at hat
                  rw [List.getD_eq_getElem?_getD, hat, Option.getD_some] at cz
                  have hnb : b < n := by omega
                  have SH := Lib.hid S; clear S
                  clear hst hat hsn
                  have HR1 : Hid (Rd ((wr.setCell (adr qs b) (.bool true)).alloc (.cells #[.int .i64 (b:Int)] 3)) 1 (some ⟨wr.heap.size, 0, none⟩) 1 (encI [(b:Int)])) := by
                    have h := Rd.oneI (wr.setCell (adr qs b) (.bool true)) 3 (b:Int)
                    have e : (wr.setCell (adr qs b) (.bool true)).heap.size = wr.heap.size := by simp
                    rw [e] at h; exact h
                  go_wp2_with (at_builtin; go_must (refine wpList_append_sep rfl _ _ _ rfl 3 i0 _ 1 8 Tryz.underlying39 hi0 hz0 hz1 hz2 rfl (by omega) ((SH.out.setRow 2 rfl b (by omega) (.bool true)).junk _) 0 q3 l2.length c3 _ rfl rfl _ 1 1 _ rfl HR1.out (one_encI _) (by omega) (by omega) ?_; intro q' c' w7 S' hsz; have S6 := Lib.hid S'; clear S' hsz))
                  go_roundw
                  case rel => exact ⟨j + 1, l2 ++ [(b:Int)], q', c', by omega, by go_num, by rw [List.length_append]; rfl, HST.out.symm, by rw [List.length_append, encI_append, ← seenL_set hnb]; exact S6.out⟩
                  case measure => simp [intOf]; omega
              · obtain rfl : j = RW.length := by omega
                have HL2 : Hid (l2 = ahF nx (cutL (lev nx n s) n k) (F.take (i + 1)) []) := by
                  unfold Hid; rw [HT.out, hl2.out, List.take_length]
                have SH := Lib.hid S; clear S
                clear hl2
                go_wp2
                go_roundw
                case rel => exact ⟨i + 1, l2, q3, c3, by omega, by go_num, rfl, HL2.out, SH.out⟩
                case measure => simp [intOf]; omega
          · obtain rfl : i = F.length := by omega
            have hl' := hl.out
            rw [List.take_length] at hl'
            have hF2 : IsFront (lev nx n s) n ((k + 1 : Nat) : Int) l' := by
              rw [hl']
              exact front_next hs HIN.out HF.out fun v hv => by rw [cutL_nth hv]; exact cut_lt
            rw [seenL_next hF2] at S
            have HF2 := Lib.hid hF2
            have HLX := Lib.hid (HLOW.out _ _ S)
            have HJX := Lib.hid (HJ.out _ Z3 W3 wr (by omega) HZb.out (by have := S.ext; rwa [Ext, hZ3] at this) HJ3.out)
            have SH := Lib.hid S; clear S
            clear hl hl' hF2
            go_wp2
            gi_wp2
            go_roundw
            case rel => exact ⟨k + 1, _, l', q2, c2, Z3, by omega, hZ3, by go_num, rfl, HF2.out, hp2.out, HJX.out, SH.out.pick [0, 2] (by decide) rfl, HLX.out⟩
            case measure => simp [intOf]; omega
      · have HX3 := Lib.hid hJx3
        clear hJx3
        gi_wp2
        go_end0
        exact ⟨⟨_, rfl⟩, .inr ⟨_, by
          have h := hp2.out
          have h2 := congrArg List.length h
          rw [List.length_map, List.length_range] at h2
          rw [h, h2], HX3.out⟩⟩
end Go.Proofs.YtkekibnhmfmhmaaGreat
/- slices.Repeat of one number. -/
namespace Go.Proofs.YtkekibnhmfmhmaaGreat
open Go Go.RowKit Go.Shelf
set_option maxRecDepth 100000 in
set_option maxHeartbeats 2000000 in
theorem mul64One (n : Nat) (hn : n ≤ 1000) (w : World) : Calls Tryz.prog 148 #[.int .u64 1, .int .u64 n] w fun e w' => e = .returned (.tuple #[.int .u64 0, .int .u64 n]) ∧ Ext w w' := by
  have h1 : bits .and .u64 (n:Int) 4294967295 = (n:Int) := by rw [Mul64.maskN n (by omega)]; omega
  have h2 : (n:Int) / 4294967296 = 0 := by omega
  have h3 : bits .and .u64 (1:Int) 4294967295 = (1:Int) := by decide +kernel
  have h4 : bits .and .u64 (0:Int) 4294967295 = (0:Int) := by decide +kernel
  go_enter Tryz.func148, Tryz.ntmps148
  go_wp2
  go_ret2
  exact ⟨rfl, Below.refl _ _⟩
set_option maxRecDepth 100000 in
set_option maxHeartbeats 2000000 in
theorem mulOne (n : Nat) (hn : n ≤ 1000) (w : World) : Calls Tryz.prog 126 #[.int .u64 1, .int .u64 n] w fun e w' => e = .returned (.tuple #[.int .u64 0, .int .u64 n]) ∧ Ext w w' := by
  have H := Lib.hid (fun W => mul64One n hn W)
  go_enter Tryz.func126, Tryz.ntmps126
  go_wp2_with (go_at_call 148; go_must (refine (H.out _).mono ?_; rintro e w1 ⟨rfl, hb⟩; have HB := Lib.hid hb; clear hb))
  go_ret2
  exact ⟨rfl, HB.out⟩
/-- so many are laid, the rest is 0 -/
def rowR (n k : Nat) : List Value := encI (List.replicate k (-1) ++ List.replicate (n - k) 0)
theorem rowR_len {n k : Nat} (h : k ≤ n) : (rowR n k).length = n := by simp [rowR, encI]; omega
theorem rowR_at {n k j : Nat} (h : j < k) : (rowR n k)[j]? = some (.int .i64 (-1)) := by
  have e : rowR n k = List.replicate k (.int .i64 (-1)) ++ List.replicate (n - k) (.int .i64 0) := by simp [rowR, encI]
  rw [e, List.getElem?_append_left (by simpa using h)]
  simp [h]
theorem rowR_splice {n k m : Nat} (h : k + m ≤ n) : splice (rowR n k) k (encI (List.replicate m (-1))) = rowR n (k + m) := by
  have e : List.replicate (n - k) (0 : Int) = List.replicate m 0 ++ List.replicate (n - (k + m)) 0 := by
    rw [List.replicate_append_replicate]; congr 1; omega
  have e2 : List.replicate (k + m) (Value.int .i64 (-1)) = List.replicate k (.int .i64 (-1)) ++ List.replicate m (.int .i64 (-1)) := List.replicate_append_replicate.symm
  unfold splice rowR
  rw [e]
  simp [encI, List.drop_append]
  rw [e2, List.append_assoc]
theorem own_blk {w : World} {base : Nat} {e : TypeId} {q : Option Addr} {n : Nat} {xs : List Value} (h : w.ownsRow base e 1 (.slice q n n) n xs) (hn : 0 < n) : ∃ g, q = some ⟨g, 0, none⟩ ∧ base ≤ g ∧ Blk w g e xs.toArray := by
  rcases h.2 with ⟨h1, h2⟩ | ⟨g, cap, cur, h1, h2, h3, h4, h5, h6, h7⟩
  · omega
  · injection h1 with h1 _ h8
    subst h8
    refine ⟨g, h1, h2, ?_⟩
    have h9 : cur.toList = xs := by rw [← h7, List.take_of_length_le (by rw [Array.length_toList, h6]; exact Nat.le_refl _)]
    unfold Blk
    rw [h3, ← h9]
theorem blk_own {w : World} {base g : Nat} {e : TypeId} {n : Nat} {xs : List Value} (h : Blk w g e xs.toArray) (hb : base ≤ g) (hm : n ≤ maxLen) (hl : xs.length = n) : w.ownsRow base e 1 (.slice (some ⟨g, 0, none⟩) n n) n xs :=
  ⟨by simpa using hl, .inr ⟨g, n, xs.toArray, rfl, hb, h, Nat.le_refl _, hm, by simpa using hl, by rw [List.take_of_length_le (by simp [hl])]⟩⟩
theorem sizeI1 : (Tryz.prog.info? 3).map (·.size) = some 1 := by kernel_rfl
/-- a copy of so many of them -/
theorem wp_copyR {w0 w : World} {ops : Array Oper} {rest : List Oper} {o : Oper} {a : Act} {Q : Exit → Act → World → Prop} (hgd : o.guard = none) (d s : Operand)
    (ho : o.op = .call { callee := .builtin .copy, args := #[d, s], argTypes := #[39, 39] }) {n k m g dc sl sc : Nat} {dp sp : Option Addr} (hd : a.eval d = .slice dp (n - k) dc) (hs : a.eval s = .slice sp sl sc)
    (hm : m = Nat.min sl (n - k)) (hk : k ≤ n) (hdp : 0 < m → dp = some ⟨g, k, none⟩) (hsp : 0 < m → ∃ ad, sp = some ad ∧ ∀ j, j < m → w.cell? (ad.add j) = some (.int .i64 (-1)))
    (HB : Blk w g 3 (rowR n k).toArray) (HE : Ext w0 w) (hg : w0.heap.size ≤ g)
    (h : ∀ w', Blk w' g 3 (rowR n (k + m)).toArray → Ext w0 w' → wpList Tryz.prog ops Q rest (a.put o.dst (.int .i64 m)) w') : wpList Tryz.prog ops Q (o :: rest) a w := by
  have hmn : k + m ≤ n := by
    have h0 : m ≤ n - k := hm ▸ Nat.min_le_right _ _
    omega
  have hl : (encI (List.replicate m (-1))).length = m := by simp [encI]
  refine wpList_copy_splice hgd d s 39 39 ho 3 Tryz.underlying39 sizeI1 dp sp (n - k) dc sl sc hd hs g k (rowR n k) 3 HB (encI (List.replicate m (-1))) (by rw [hl]; exact hm) ?_ (by rw [rowR_len hk, hl]; exact hmn) ?_ w0.heap.size w0 HE hg ?_
  · rw [hl]
    intro hm0
    obtain ⟨ad, h1, h2⟩ := hsp hm0
    refine ⟨hdp hm0, ad, h1, fun j v hj => ?_⟩
    have hj' : j < m := by have := (List.getElem?_eq_some_iff.1 hj).1; rw [hl] at this; exact this
    rw [h2 j hj']
    simp [encI, hj'] at hj
    rw [← hj]
  · intro v hv
    simp [encI] at hv
    rw [hv.2]; rfl
  · intro w' h1 h2
    rw [rowR_splice hmn] at h1
    have := h w' h1.out h2
    rw [hl]; exact this
theorem one_src {w : World} {p : Option Addr} (h : Rd w 1 p 1 (encI [-1])) : ∃ ad, p = some ad ∧ ∀ j, j < 1 → w.cell? (ad.add j) = some (.int .i64 (-1)) := by
  rcases h.ptr with h0 | ⟨b, o, rfl⟩
  · omega
  · refine ⟨_, rfl, fun j hj => ?_⟩
    obtain rfl : j = 0 := by omega
    exact h.cI (k := 0) (by omega)
theorem row_src {w : World} {g n k m : Nat} (h : Blk w g 3 (rowR n k).toArray) (hm : m ≤ k) : ∃ ad, (some ⟨g, 0, none⟩ : Option Addr) = some ad ∧ ∀ j, j < m → w.cell? (ad.add j) = some (.int .i64 (-1)) := by
  refine ⟨_, rfl, fun j hj => ?_⟩
  have := h.cell j
  rw [List.getElem?_toArray, rowR_at (by omega)] at this
  simpa [Addr.add_lit] using this
theorem copy_run {W : World} {g n k m : Nat} (hB : Blk W g 3 (rowR n k).toArray) (hk1 : 1 ≤ k) (hkn : k < n) (hm : m = Nat.min k (n - k)) :
    (Builtin.copy_ #[39, 39] 3 #[.slice (cutp (some ⟨g, 0, none⟩) n k 1) (n - k) (n - k), .slice (cutp (some ⟨g, 0, none⟩) n 0 1) k n]).run Tryz.prog W = .ok (.int .i64 m) (W.setRow g (rowR n (k + m)).toArray) := by
  have hmn : m ≤ n - k := hm ▸ Nat.min_le_right _ _
  have hmk : m ≤ k := hm ▸ Nat.min_le_left _ _
  have e1 : cutp (some ⟨g, 0, none⟩) n k 1 = some ⟨g, k, none⟩ := by unfold cutp; rw [if_neg (by omega)]; simp [Addr.add_lit]
  have e2 : cutp (some ⟨g, 0, none⟩) n 0 1 = some ⟨g, 0, none⟩ := by unfold cutp; rw [if_neg (by omega)]; simp [Addr.add_lit]
  have hl : (encI (List.replicate m (-1))).length = m := by simp [encI]
  rw [e1, e2]
  have h := run_copy_row (P := Tryz.prog) W 39 39 3 3 g k (n - k) (n - k) ⟨g, 0, none⟩ k n (rowR n k).toArray 3 (encI (List.replicate m (-1))) Tryz.underlying39 sizeI1 hB (by rw [hl]; exact hm) (fun j v hj => by
    have hj' : j < m := by have := (List.getElem?_eq_some_iff.1 hj).1; rw [hl] at this; exact this
    have h1 := hB.cell j
    rw [List.getElem?_toArray, rowR_at (by omega)] at h1
    simp [encI, hj'] at hj
    rw [← hj]
    simpa [Addr.add_lit] using h1) (by rw [hl]; simp [rowR_len (Nat.le_of_lt hkn)]; omega) (by intro v hv; simp [encI] at hv; rw [hv.2]; rfl)
  rw [h, hl]
  have e3 : (rowR n k).toArray.toList.take k ++ (encI (List.replicate m (-1)) ++ (rowR n k).toArray.toList.drop (k + m)) = rowR n (k + m) := by
    have := rowR_splice (n := n) (k := k) (m := m) (by omega)
    unfold splice at this
    rw [hl] at this
    exact this
  rw [List.append_assoc, e3]; rfl
set_option maxRecDepth 100000 in
set_option maxHeartbeats 4000000 in
theorem repeatG (n : Nat) (h1 : 1 ≤ n) (hn : n ≤ 200) (p : Option Addr) (c : Nat) (w : World) (hx : Rd w 1 p 1 (encI [-1])) :
    Calls Tryz.prog 93 #[.slice p 1 c, .int .i64 n] w fun e w' => ∃ q, e = .returned (.slice q n n) ∧ Sep w w' [.own 3 1 q n n (encI (List.replicate n (-1)))] := by
  obtain ⟨i0, hi0, hz0, hz1, hz2⟩ := info_parts infI
  have HM := Lib.hid (fun W => mulOne n (by omega) W)
  have d1 : decide ((n:Int) < 0) = false := by simp
  have d2 : decide ((9223372036854775807:Int) < n) = false := by simp; omega
  go_enter Tryz.func93, Tryz.ntmps93
  go_wp2_with (first
    | (at_make; go_must (refine wpList_make_sep rfl _ _ _ rfl 3 i0 _ 1 Tryz.underlying39 hi0 hz0 hz1 (n:Int) n rfl rfl rfl (by rw [hz2]; omega) (by unfold maxLen; omega) S1.out ?_; intro w2 S'; rw [made_encI] at S'; have S2 := Lib.hid S'; clear S'; obtain ⟨g, hq, hg, hB⟩ := own_blk (S2.out.own 0 rfl) (by omega); rw [hq]; have HB : Hid (Blk w2 g 3 (rowR n 0).toArray) := hB; have HE := Lib.hid S2.out.ext; have HX := Lib.hid (hx.ext S2.out.ext); clear hq hB S2 S1))
    | (have _t := HB; with_reducible show wpList _ _ _ (⟨some 33, _, _, _, _, _⟩ :: _) _ _; go_must (refine wp_copyR rfl (.tmp 31) (.tmp 32) rfl (n := n) (k := 0) (m := 1) (g := g) (dp := some ⟨g, 0, none⟩) (sp := p) (sl := 1) (sc := c) (dc := n) rfl rfl (by show 1 = min 1 (n - 0); omega) (Nat.zero_le _) (fun _ => rfl) (fun _ => one_src HX.out) HB.out HE.out hg ?_; intro w3 h3 h4; rw [Nat.zero_add] at h3; have HB3 := Lib.hid h3; have HE3 := Lib.hid h4; clear h3 h4))
    | (go_at_call 126; go_must (refine (HM.out _).mono ?_; rintro e w1 ⟨rfl, hb⟩; have S1 := Lib.hid ((Sep.start w).call hb); clear hb)))
  go_loopg [8] n (fun gg v wr => ∃ k : Nat, 1 ≤ k ∧ k ≤ n ∧ n ≤ k + gg ∧ v = .int .i64 k ∧ Hid (Blk wr g 3 (rowR n k).toArray) ∧ Ext w wr)
  case atStart => exact ⟨1, Nat.le_refl _, h1, by omega, rfl, HB3.out, HE3.out⟩
  case round =>
    clear HB3 HE3
    obtain ⟨k, hk1, hk, hgg, rfl, HBk, hE⟩ := hrel
    have HE := Lib.hid hE
    clear hE
    by_cases hlt : k < n
    · have d3 : (k:Int) < n := by omega
      have d4 : (0:Int) ≤ k := by omega
      have d5 : (k:Int) ≤ n := by omega
      obtain ⟨m, hm⟩ : ∃ m, m = Nat.min k (n - k) := ⟨_, rfl⟩
      have hm1 : 1 ≤ m := by rw [hm]; show 1 ≤ min k (n - k); omega
      have hm2 : k + m ≤ n := by
        have h0 : m ≤ n - k := hm ▸ Nat.min_le_right _ _
        omega
      have hrun := copy_run (W := wr.drew) HBk.out hk1 hlt hm
      have HB5 : Hid (Blk (wr.drew.setRow g (rowR n (k + m)).toArray) g 3 (rowR n (k + m)).toArray) := setRow_heap wr.drew g _ _ 3 _ HBk.out
      have HE5 : Hid (Ext w (wr.drew.setRow g (rowR n (k + m)).toArray)) := below_setRow (Below.drew HE.out) hg _
      have hwr : IntKind.i64.wrap ((k:Int) + (m:Int)) = ((k + m : Nat) : Int) := by
        rw [Int.natCast_add]
        rw [IntKind.wrap_i64]; omega
      clear hm
      go_wp2
      go_region_with fail
      go_wp2
      go_roundg (gk - m)
      case measure => omega
      case rel => exact ⟨k + m, by omega, by omega, by omega, by first | rfl | (rw [hwr]) | go_num, HB5.out, HE5.out⟩
    · obtain rfl : n = k := by omega
      have e : rowR n n = encI (List.replicate n (-1)) := by unfold rowR; rw [Nat.sub_self, List.replicate_zero, List.append_nil]
      have HBn := HBk.out
      rw [e] at HBn
      have HBn' := Lib.hid HBn
      clear HBn e
      go_wp2
      go_ret
      exact ⟨_, rfl, Sep.of_own HE.out (blk_own (n := n) HBn'.out hg (by unfold maxLen; omega) (by simp [encI]))⟩
end Go.Proofs.YtkekibnhmfmhmaaGreat
/- The program's levels (chapter 7): Levels. -/
namespace Go.Proofs.YtkekibnhmfmhmaaGreat
open Go Go.RowKit Go.Shelf Go.Lib
attribute [local go_sem] Oper.semAt_some
theorem levC_open {ck : Bool} {O : List Int} {s : Int} : openC ck O [s] = levC ck O s := by
  unfold openC levC
  cases ck with
  | false => rfl
  | true =>
    rw [if_pos rfl, if_pos rfl]
    by_cases h : 0 ≤ s ∧ s < (O.length : Int) - 1
    · rw [if_pos h, if_pos (by simp [h.1, h.2])]
    · rw [if_neg h, if_neg (by simp; omega)]
/-- what is known of levels when these have been gone through -/
def levRow (f : Nat → Int) (n : Nat) (ks : List Nat) : List Int := (List.range n).map fun v => if 0 ≤ f v ∧ (f v).toNat ∈ ks then f v else -1
theorem levRow_len (f : Nat → Int) (n : Nat) (ks : List Nat) : (levRow f n ks).length = n := by simp [levRow]
theorem levRow_nth {f : Nat → Int} {n : Nat} {ks : List Nat} {v : Nat} (hv : v < n) : nth (levRow f n ks) v = if 0 ≤ f v ∧ (f v).toNat ∈ ks then f v else -1 := by
  rw [nth_eq (by rw [levRow_len]; exact hv)]; simp [levRow]
theorem levRow_nil (f : Nat → Int) (n : Nat) : levRow f n [] = List.replicate n (-1) := by
  apply List.ext_getElem
  · simp [levRow]
  · intro j h1 h2; simp [levRow]
theorem levRow_step {f : Nat → Int} {n : Nat} {ks : List Nat} {k : Nat} {F : List Int} (hF : IsFront f n k F) : tkR (k : Int) F (levRow f n ks) = levRow f n (ks ++ [k]) := by
  apply List.ext_getElem
  · rw [tkR_len, levRow_len, levRow_len]
  · intro v h1 h2
    have hv : v < n := by rw [levRow_len] at h2; exact h2
    rw [← nth_eq h1, ← nth_eq h2, tkR_nth (fun x hx => by have := (hF.2 x).1 hx; rw [levRow_len]; omega), levRow_nth hv, levRow_nth hv]
    by_cases hm : (v : Int) ∈ F
    · have := (hF.2 _).1 hm
      rw [Int.toNat_natCast] at this
      rw [if_pos hm, if_pos ⟨by omega, by rw [List.mem_append]; right; simp; omega⟩]; omega
    · rw [if_neg hm]
      have hne : f v ≠ k := fun e => hm ((hF.2 _).2 ⟨by omega, by omega, by rw [Int.toNat_natCast]; exact e⟩)
      by_cases h0 : 0 ≤ f v
      · have e : ((f v).toNat ∈ ks ++ [k]) ↔ (f v).toNat ∈ ks := by
          rw [List.mem_append, List.mem_singleton]
          constructor
          · rintro (h | h)
            · exact h
            · omega
          · exact .inl
        simp only [e]
      · rw [if_neg (fun h => h0 h.1), if_neg (fun h => h0 h.1)]
theorem levRow_all {nx : Nat → List Int} {n s m : Nat} (hs : s < n) (hno : hasL n (lev nx n s) m = false) : levRow (lev nx n s) n (List.range m) = (List.range n).map fun v => lev nx n s v := by
  unfold levRow
  apply List.map_congr_left
  intro v hv
  rw [List.mem_range] at hv
  rcases lev_cases (nx := nx) hs hv with ⟨h1, _⟩ | ⟨j, hj, h1, _⟩
  · rw [if_neg (by omega), h1]
  · by_cases hjm : j < m
    · rw [if_pos ⟨by omega, by rw [List.mem_range]; omega⟩]
    · have := has_below hs (k := j) (j := m) (by omega) (hasL_iff.2 ⟨v, hv, h1⟩)
      rw [hno] at this; cases this
theorem cell_turn {W W' : World} {row : Option Nat} {p : Addr} {v : Value} (h : W.cell? p = some v) (hg : W.grownBy W' row) (hr : ∀ r, row = some r → ∃ o : Obj, W.heap[r]? = some o ∧ o.isCells = false) : W'.cell? p = some v := by
  have hlt := World.block_lt_of_cell? W _ h
  have e : W'.heap[p.block]? = W.heap[p.block]? := hg.block p.block hlt fun e => by
    obtain ⟨o, h1, h2⟩ := hr p.block e.symm
    unfold World.cell? at h
    rw [h1] at h
    cases o <;> simp_all [Obj.isCells]
  unfold World.cell? at *
  rw [e]; exact h
theorem ylA_own {nx : Nat → List Int} {n s B C : Nat} : OwnFrom C (ylA B : YlOf nx n s → World → Prop) := fun _ _ _ _ h hg hr =>
  ⟨⟨h.1.len, h.1.ptr, h.1.small, fun j hj => cell_turn (h.1.cells j hj) hg fun r e => (hr r e).2⟩, h.2⟩
theorem kpF_b {w4 : World} {n₀ b1 b2 b3 : Nat} (hn : n₀ ≤ w4.heap.size) (h1 : b1 < w4.heap.size) (h2 : b2 < w4.heap.size) (h3 : b3 < w4.heap.size) (W : World) (l : Nat) (o o' : Obj) (hl : w4.heap.size ≤ l) (h : W.heap[l]? = some o) (hc : o.isCells = false) (hw : o.isWalk = false) : KpF n₀ w4.heap.size b1 b2 b3 W (W.putObj l o') :=
  ⟨belowK_b hn W l o o' hl h hc hw, World.putObj_heap_other (by omega), World.putObj_heap_other (by omega), World.putObj_heap_other (by omega), fun k o2 hk h2 h3 => by
    by_cases e : k = l
    · subst e; rw [h] at h2; cases h2; rw [hc] at h3; cases h3
    · rw [World.putObj_heap_other (by omega)]; exact h2⟩
set_option maxRecDepth 100000 in
set_option maxHeartbeats 4000000 in
theorem LevelsG_no (po : Option Addr) (no co : Nat) (O : List Int) (pt : Option Addr) (nt ct : Nat) (T : List Int) (pr : Option Addr) (nr cr : Nat) (R : List Int) (pv : Option Addr) (nv cv : Nat) (V : List Int) (s : Int) (back : Bool) (w : World) (hO : Rd w 1 po no (encI O)) (hT : Rd w 1 pt nt (encI T)) (hR : Rd w 1 pr nr (encI R)) (hV : Rd w 1 pv nv (encI V)) (hct : nt ≤ ct) (hcv : nv ≤ cv) (hc : levC (checkR O T R V) O s ≠ 0) :
    Calls Tryz.prog 67 #[.agg #[.slice po no co, .slice pt nt ct, .slice pr nr cr, .slice pv nv cv], .int .i64 s, .bool back] w fun e w' => e = .returned (.tuple #[.slice none 0 0, .int .i64 (levC (checkR O T R V) O s)]) ∧ Ext w w' := by
  have S0 := Lib.hid (((Sep.start w).al #[.slice po no co, .slice pt nt ct, .slice pr nr cr, .slice pv nv cv] 41 w.heap.size rfl).al #[.int .i64 s] 3 (w.heap.size + 1) (by simp))
  have HOp := Lib.hid (fun W1 p c (h : Ext w W1) (hl : Rd W1 1 p 1 (encI [s])) => openL po no co O pt nt ct T pr nr cr R pv nv cv V p 1 c [s] W1 (hO.ext h) (hT.ext h) (hR.ext h) (hV.ext h) hct hcv hl)
  rw [levC_open] at HOp
  generalize levC (checkR O T R V) O s = cc at *
  have hc0 : (cc != 0) = true := by simpa using hc
  clear hO hT hR hV hct hcv hc
  go_enter Tryz.func67, Tryz.ntmps67
  go_wp2_with (go_at_call 92; go_must (refine (HOp.out _ _ _ S0.out.ext ((S0.out.blk 0 rfl).rd rfl rfl (by decide))).mono ?_; rintro e w1 ⟨rfl, hb⟩; have S1 := Lib.hid (S0.out.call hb); clear hb))
  go_ret2
  exact ⟨rfl, (S1.out.al #[.slice po no co, .slice pt nt ct, .slice pr nr cr, .slice pv nv cv] 136 w1.heap.size rfl).ext⟩
theorem cell_eq {W W' : World} {p : Addr} (h : W'.heap[p.block]? = W.heap[p.block]?) : W'.cell? p = W.cell? p := by unfold World.cell?; rw [h]
set_option maxRecDepth 100000 in
set_option maxHeartbeats 16000000 in
theorem LevelsG_out (po : Option Addr) (no co : Nat) (O : List Int) (pt : Option Addr) (nt ct : Nat) (T : List Int) (pr : Option Addr) (nr cr : Nat) (R : List Int) (pv : Option Addr) (nv cv : Nat) (V : List Int) (n s : Nat) (w : World) (hO : Rd w 1 po no (encI O)) (hT : Rd w 1 pt nt (encI T)) (hR : Rd w 1 pr nr (encI R)) (hV : Rd w 1 pv nv (encI V)) (hct : nt ≤ ct) (hcv : nv ≤ cv) (hck : checkR O T R V = true) (hno : O.length = n + 1) (hs : s < n) :
    Calls Tryz.prog 67 #[.agg #[.slice po no co, .slice pt nt ct, .slice pr nr cr, .slice pv nv cv], .int .i64 s, .bool false] w fun e w' => ∃ q c, e = .returned (.tuple #[.slice q n c, .int .i64 0]) ∧ Sep w w' [.own 3 1 q n c (encI ((List.range n).map fun v => lev (rowL O T) n s v))] := by
  have S0 := Lib.hid (((Sep.start w).al #[.slice po no co, .slice pt nt ct, .slice pr nr cr, .slice pv nv cv] 41 w.heap.size rfl).al #[.int .i64 s] 3 (w.heap.size + 1) (by simp))
  have HOp := Lib.hid (fun W1 p c (h : Ext w W1) (hl : Rd W1 1 p 1 (encI [(s:Int)])) => openL po no co O pt nt ct T pr nr cr R pv nv cv V p 1 c [(s:Int)] W1 (hO.ext h) (hT.ext h) (hR.ext h) (hV.ext h) hct hcv hl)
  have hl0 : levC (checkR O T R V) O s = 0 := by unfold levC; rw [if_pos hck, if_pos (by omega)]
  rw [levC_open, hl0] at HOp
  obtain ⟨e1, e2, e3, e4⟩ := checkR_half hck
  have r := offB_parts (halfB_off e3)
  have hn : n ≤ 200 := by omega
  have hin : InN (rowL O T) n := by have := nxR_in hck false; rw [hno] at this; exact this
  have l1 := hO.nI
  have hnn : no = n + 1 := by omega
  have hA0 : 0 < no → (adr po 0).block < w.heap.size := fun h => hO.lt (by omega)
  have hB0 : 0 < nt → (adr pt 0).block < w.heap.size := fun h => hT.lt (by omega)
  have HNX : Hid (∀ w4, Ext w w4 → ∀ k, k < n → ∃ q c, ∀ W, Below w.heap.size w4 W → Rd W 1 q ((rowL O T) k).length (encI ((rowL O T) k)) ∧ Calls Tryz.prog 150 #[.agg #[.slice po no co, .slice pt nt ct, .slice pr nr cr, .slice pv nv cv], .int .i64 k] W fun e w' => e = .returned (.slice q ((rowL O T) k).length c) ∧ Ext W w') := fun w4 h4 k hk => by
    have hok := offOk_of (halfB_off e3)
    have hkl : k + 1 < O.length := by omega
    refine ⟨cutp pt ct (nth O k).toNat 1, ct - (nth O k).toNat, fun W hW => ?_⟩
    have hx := (hO.ext h4).below hW (by simpa using hA0)
    have hy := (hT.ext h4).below hW (by simpa using hB0)
    refine ⟨?_, waysOut po no co O pt nt ct T pr nr cr R pv nv cv V k W hx hy hok hct hkl⟩
    have := hy.rowOf hok hct hkl
    rw [← rowL_len hok hkl] at this
    exact this
  have HIN := Lib.hid hin
  have HSZ := Lib.hid (fun W => waysSize po (n + 1) co pt nt ct pr nr cr pv nv cv W (by omega) (by omega))
  have HFR := Lib.hid (fun W => frontsG po (n + 1) co pt nt ct pr nr cr pv nv cv s false W)
  clear hO hT hR hV hct hcv hck hno hl0 e1 e2 e3 e4 r l1 hA0 hB0 hin
  subst hnn
  generalize rowL O T = nx at *
  refine (callsIn_wide (n := 9)).1 ?_
  refine callsIn_of_wp_marks Tryz.func67 rfl trivial ?_ rfl
  simp only [Tryz.ntmps67, List.size_toArray, List.length_cons, List.length_nil, Nat.reduceAdd, Nat.reduceSub, Array.replicate_succ, Array.replicate_zero, List.push_toArray, List.append_toArray, List.nil_append, List.cons_append]
  refine wpIn_wide.2 ?_
  go_wp2_with (first
    | (go_at_call 95; go_must (refine (HFR.out _).mono ?_; rintro e w4 ⟨b1, b2, b3, rfl, Z⟩; have S4 := Lib.hid (S3.out.comp Z); clear Z))
    | (go_at_call 93; go_must (refine (repeatG n (by omega) hn _ _ _ ((S2.out.blk 0 rfl).rd rfl rfl (by decide))).mono ?_; rintro e w3 ⟨q, rfl, Z⟩; have S3 := Lib.hid ((S2.out.comp Z).al #[.slice q n n] 39 w3.heap.size rfl); have yz := (S3.out.blk 3 rfl).lt; have y0 := (S3.out.blk 3 rfl).cell 0; have y1 := (S3.out.blk 3 rfl).cell 1; have y2 := (S3.out.blk 3 rfl).cell 2; have y3 := (S3.out.blk 3 rfl).cell 3; clear Z))
    | (go_at_call 94; go_must (refine (HSZ.out _).mono ?_; rintro e w2 ⟨rfl, hb⟩; have S2 := Lib.hid (((S1.out.al #[.slice po (n + 1) co, .slice pt nt ct, .slice pr nr cr, .slice pv nv cv] 136 w1.heap.size rfl).al #[.int .i64 (-1)] 3 (w1.heap.size + 1) (by simp)).call hb); clear hb))
    | (go_at_call 92; go_must (refine (HOp.out _ _ _ S0.out.ext ((S0.out.blk 0 rfl).rd rfl rfl (by decide))).mono ?_; rintro e w1 ⟨rfl, hb⟩; have S1 := Lib.hid (S0.out.call hb); clear hb)))
  clear S0 S1 S2 S3 y0 y1 y2 y3 yz
  generalize w3.heap.size = g at *
  have S5 := Lib.hid (S4.out.pick [0, 1, 2, 3, 4] (by decide) rfl : Sep w w4 [.blk b3 163 #[.func (.func 150) #[.agg #[.slice po (n + 1) co, .slice pt nt ct, .slice pr nr cr, .slice pv nv cv]] #[]], .blk b2 3 #[.int .i64 s], .blk b1 136 #[.slice po (n + 1) co, .slice pt nt ct, .slice pr nr cr, .slice pv nv cv], .blk g 39 #[.slice q n n], .own 3 1 q n n (encI (List.replicate n (-1)))])
  rw [← levRow_nil (lev nx n s) n] at S5
  clear S4 HOp HSZ HFR
  refine wpIn_wide.1 (wpIn_rangeFunc_told (F := Fence.wide) (n := 9) rfl (by omega) (gf := 128) (lb := #[.pointer (some ⟨b1, 0, none⟩), .pointer (some ⟨b2, 0, none⟩), .pointer (some ⟨b3, 0, none⟩)]) rfl trivial (enters_of Tryz.func128 (by kernel_rfl) rfl)
    (fronts_out 8 (by omega) po (n + 1) co pt nt ct pr nr cr pv nv cv b1 b2 b3 w.heap.size n s nx w4 S5.out.ext.size (S5.out.blk 2 rfl) (S5.out.blk 1 rfl) (S5.out.blk 0 rfl) hs hn rfl HIN.out (HNX.out w4 S5.out.ext))
    (fun h k => KpF.trans h k) (kpF_b S5.out.ext.size (S5.out.blk 2 rfl).lt (S5.out.blk 1 rfl).lt (S5.out.blk 0 rfl).lt) (Below.refl _ _) (fun _ => rfl)
    (fun pre W => Sep w W [.blk b3 163 #[.func (.func 150) #[.agg #[.slice po (n + 1) co, .slice pt nt ct, .slice pr nr cr, .slice pv nv cv]] #[]], .blk b2 3 #[.int .i64 s], .blk b1 136 #[.slice po (n + 1) co, .slice pt nt ct, .slice pr nr cr, .slice pv nv cv], .blk g 39 #[.slice q n n], .own 3 1 q n n (encI (levRow (lev nx n s) n (pre.map (·.1.k))))])
    (fun _ _ _ => False)
    ?hI (fun _ _ _ _ _ _ _ _ h => h) ylA_own S5.out ?a1 ?assign ?body ?done (fun D c pre W _ _ h _ => h.elim))
  case hI =>
    intro pre Z W W' hZ h1 h2 S
    refine S.far S5.out.ext.size hZ h1 h2 fun p hp k hk => ?_
    simp only [List.mem_cons, List.not_mem_nil, or_false] at hp
    rcases hp with rfl | rfl | rfl | rfl | rfl
    · exact S5.out.lt (List.mem_of_getElem? (i := 0) rfl) hk
    · exact S5.out.lt (List.mem_of_getElem? (i := 1) rfl) hk
    · exact S5.out.lt (List.mem_of_getElem? (i := 2) rfl) hk
    · exact S5.out.lt (List.mem_of_getElem? (i := 3) rfl) hk
    · exact S5.out.lt (List.mem_of_getElem? (i := 4) rfl) hk
  case assign =>
    intro l x W K hK
    simp only [ylE]
    gi_wp2
    exact hK
  case body =>
    rintro l pre ⟨⟨k, F, q', c'⟩, hF, lf⟩ W S ⟨hR, hBk⟩ hlen
    have hRd : Rd W 1 q' F.length (encI F) := hR
    have hblk : w4.heap.size ≤ (adr q' 0).block := hBk
    have HF := Lib.hid (show IsFront (lev nx n s) n k F from hF)
    have bF := Lib.hid (front_bd8 HF.out)
    have hF200 : F.length ≤ 200 := by have := bF.out.2; omega
    have pF := hRd.ptr
    have HR := Lib.hid hRd
    have hqb := S5.out.blt 4 rfl (by omega)
    have HS := Lib.hid S
    obtain ⟨X, hX⟩ : ∃ X, X = levRow (lev nx n s) n (pre.map (·.1.k)) := ⟨_, rfl⟩
    have hXl : X.length = n := by rw [hX, levRow_len]
    have HX : Hid (tkR (k:Int) F X = levRow (lev nx n s) n ((pre ++ [(⟨⟨k, F, q', c'⟩, hF, lf⟩ : YlOf nx n s)]).map (·.1.k))) := by
      unfold Hid; rw [List.map_append, hX]; exact levRow_step HF.out
    rw [← hX] at HS
    generalize (pre ++ [(⟨⟨k, F, q', c'⟩, hF, lf⟩ : YlOf nx n s)]) = pre2 at *
    clear hX S hR hBk hRd hlen
    gi_wp2
    gi_loopw [14, 37] (fun _ v37 wx => ∃ j : Nat, j ≤ F.length ∧ v37 = .int .i64 j ∧ Sep w wx [.blk b3 163 #[.func (.func 150) #[.agg #[.slice po (n + 1) co, .slice pt nt ct, .slice pr nr cr, .slice pv nv cv]] #[]], .blk b2 3 #[.int .i64 s], .blk b1 136 #[.slice po (n + 1) co, .slice pt nt ct, .slice pr nr cr, .slice pv nv cv], .blk g 39 #[.slice q n n], .own 3 1 q n n (encI (tkR (k:Int) (F.take j) X))] ∧ W.heap.size ≤ wx.heap.size ∧ Hid (∀ kk, w4.heap.size ≤ kk → wx.heap[kk]? = W.heap[kk]?)) (fun _ v37 _ => F.length - (intOf v37).toNat)
    case atStart => exact ⟨0, Nat.zero_le _, rfl, HS.out, Nat.le_refl _, fun _ _ => rfl⟩
    case round =>
      obtain ⟨j, hj, rfl, S, hsz, hup⟩ := hrel
      have g0 := (S.blk 3 rfl).cell 0
      have gz := (S.blk 3 rfl).lt
      have pq := (S.rdx 4 rfl).ptr
      by_cases hlj : j < F.length
      · have g1 := HR.out.cI hlj
        rw [← cell_eq (W' := wr) (by rw [adr_block]; exact hup.out _ hblk)] at g1
        obtain ⟨f1, f2⟩ := bF.out.1 _ (nth_mem hlj)
        have hT := tkR_take (c := (k:Int)) (X := X) hlj
        obtain ⟨a, ha⟩ : ∃ a : Nat, nth F j = (a : Int) := ⟨(nth F j).toNat, by omega⟩
        rw [ha] at g1 f1 f2 hT
        rw [Int.toNat_natCast] at hT
        have HT := Lib.hid hT
        have d1 : (0:Int) ≤ j := by omega
        have d2 : (j:Int) < F.length := by omega
        have fz := own_frozen (S.own 4 rfl) (by omega) a
        have cz := own_cell (S.own 4 rfl) (k := a) (by omega)
        have HU : Hid (∀ kk, w4.heap.size ≤ kk → (wr.setCell (adr q a) (.int .i64 k)).heap[kk]? = W.heap[kk]?) := fun kk hk => by
          rw [Below.heap_setCell wr (adr q a) _ kk (by rw [adr_block]; omega)]; exact hup.out kk hk
        have SH := Lib.hid S; clear S
        clear hT ha
        gi_wp2
        go_roundw
        case rel => exact ⟨j + 1, by omega, by go_num, by rw [HT.out, ← encI_set]; exact SH.out.setRow 4 rfl a (by omega) (.int .i64 k), by simpa using hsz, HU.out⟩
        case measure => simp [intOf]; omega
      · obtain rfl : j = F.length := by omega
        rw [List.take_length, HX.out] at S
        have SH := Lib.hid S; clear S
        gi_wp2
        exact ⟨⟨hsz, fun kk o hB ho _ => (hup.out kk hB).trans ho⟩, ⟨⟨SH.out.ext.os.trans HS.out.ext.os.symm, SH.out.ext.tape.trans HS.out.ext.tape.symm, SH.out.ext.output.trans HS.out.ext.output.symm, hsz, fun kk hk => (SH.out.ext.block kk hk).trans (HS.out.ext.block kk hk).symm⟩, (SH.out.blk 2 rfl).trans (HS.out.blk 2 rfl).symm, (SH.out.blk 1 rfl).trans (HS.out.blk 1 rfl).symm, (SH.out.blk 0 rfl).trans (HS.out.blk 0 rfl).symm, fun kk o hB ho _ => (hup.out kk hB).trans ho⟩, SH.out⟩
  case done =>
    rintro D ys W hD hys S hK
    rw [hys.1, levRow_all hs hys.2] at S
    have c4 := (S.blk 3 rfl).cell 0
    have S' := S.putObj (cells_all fun p hp => by
      simp only [List.mem_cons, List.not_mem_nil, or_false] at hp
      rcases hp with rfl | rfl | rfl | rfl | rfl
      · exact .inl ⟨_, _, _, rfl⟩
      · exact .inl ⟨_, _, _, rfl⟩
      · exact .inl ⟨_, _, _, rfl⟩
      · exact .inl ⟨_, _, _, rfl⟩
      · exact .inr ⟨_, _, _, _, _, _, rfl⟩) (.deferred none) (Nat.le_trans S5.out.ext.size hD) hK rfl
    have SH := Lib.hid S; clear S
    have SH' := Lib.hid S'; clear S'
    go_wp2
    refine ⟨by simp, .inl ⟨_, _, rfl, run_takeDeferred hK, ?_⟩⟩
    exact ⟨.tuple #[.slice q n n, .int .i64 0], by simp [results, Tryz.results67, go_sem], q, n, rfl, SH'.out.pick [4] (by decide) rfl⟩
set_option maxRecDepth 100000 in
set_option maxHeartbeats 16000000 in
theorem LevelsG_in (po : Option Addr) (no co : Nat) (O : List Int) (pt : Option Addr) (nt ct : Nat) (T : List Int) (pr : Option Addr) (nr cr : Nat) (R : List Int) (pv : Option Addr) (nv cv : Nat) (V : List Int) (n s : Nat) (w : World) (hO : Rd w 1 po no (encI O)) (hT : Rd w 1 pt nt (encI T)) (hR : Rd w 1 pr nr (encI R)) (hV : Rd w 1 pv nv (encI V)) (hct : nt ≤ ct) (hcv : nv ≤ cv) (hck : checkR O T R V = true) (hno : O.length = n + 1) (hs : s < n) :
    Calls Tryz.prog 67 #[.agg #[.slice po no co, .slice pt nt ct, .slice pr nr cr, .slice pv nv cv], .int .i64 s, .bool true] w fun e w' => ∃ q c, e = .returned (.tuple #[.slice q n c, .int .i64 0]) ∧ Sep w w' [.own 3 1 q n c (encI ((List.range n).map fun v => lev (rowL R V) n s v))] := by
  have S0 := Lib.hid (((Sep.start w).al #[.slice po no co, .slice pt nt ct, .slice pr nr cr, .slice pv nv cv] 41 w.heap.size rfl).al #[.int .i64 s] 3 (w.heap.size + 1) (by simp))
  have HOp := Lib.hid (fun W1 p c (h : Ext w W1) (hl : Rd W1 1 p 1 (encI [(s:Int)])) => openL po no co O pt nt ct T pr nr cr R pv nv cv V p 1 c [(s:Int)] W1 (hO.ext h) (hT.ext h) (hR.ext h) (hV.ext h) hct hcv hl)
  have hl0 : levC (checkR O T R V) O s = 0 := by unfold levC; rw [if_pos hck, if_pos (by omega)]
  rw [levC_open, hl0] at HOp
  obtain ⟨e1, e2, e3, e4⟩ := checkR_half hck
  have r := offB_parts (halfB_off e3)
  have hn : n ≤ 200 := by omega
  have hin : InN (rowL R V) n := by have := nxR_in hck true; rw [hno] at this; exact this
  have l1 := hO.nI
  have hnn : no = n + 1 := by omega
  have hA0 : 0 < nr → (adr pr 0).block < w.heap.size := fun h => hR.lt (by omega)
  have hB0 : 0 < nv → (adr pv 0).block < w.heap.size := fun h => hV.lt (by omega)
  have HNX : Hid (∀ w4, Ext w w4 → ∀ k, k < n → ∃ q c, ∀ W, Below w.heap.size w4 W → Rd W 1 q ((rowL R V) k).length (encI ((rowL R V) k)) ∧ Calls Tryz.prog 149 #[.agg #[.slice po no co, .slice pt nt ct, .slice pr nr cr, .slice pv nv cv], .int .i64 k] W fun e w' => e = .returned (.slice q ((rowL R V) k).length c) ∧ Ext W w') := fun w4 h4 k hk => by
    have hok := offOk_of (halfB_off e4)
    have hkl : k + 1 < R.length := by omega
    refine ⟨cutp pv cv (nth R k).toNat 1, cv - (nth R k).toNat, fun W hW => ?_⟩
    have hx := (hR.ext h4).below hW (by simpa using hA0)
    have hy := (hV.ext h4).below hW (by simpa using hB0)
    refine ⟨?_, waysIn po no co O pt nt ct T pr nr cr R pv nv cv V k W hx hy hok hcv hkl⟩
    have := hy.rowOf hok hcv hkl
    rw [← rowL_len hok hkl] at this
    exact this
  have HIN := Lib.hid hin
  have HSZ := Lib.hid (fun W => waysSize po (n + 1) co pt nt ct pr nr cr pv nv cv W (by omega) (by omega))
  have HFR := Lib.hid (fun W => frontsG po (n + 1) co pt nt ct pr nr cr pv nv cv s true W)
  clear hO hT hR hV hct hcv hck hno hl0 e1 e2 e3 e4 r l1 hA0 hB0 hin
  subst hnn
  generalize rowL R V = nx at *
  refine (callsIn_wide (n := 9)).1 ?_
  refine callsIn_of_wp_marks Tryz.func67 rfl trivial ?_ rfl
  simp only [Tryz.ntmps67, List.size_toArray, List.length_cons, List.length_nil, Nat.reduceAdd, Nat.reduceSub, Array.replicate_succ, Array.replicate_zero, List.push_toArray, List.append_toArray, List.nil_append, List.cons_append]
  refine wpIn_wide.2 ?_
  go_wp2_with (first
    | (go_at_call 95; go_must (refine (HFR.out _).mono ?_; rintro e w4 ⟨b1, b2, b3, rfl, Z⟩; have S4 := Lib.hid (S3.out.comp Z); clear Z))
    | (go_at_call 93; go_must (refine (repeatG n (by omega) hn _ _ _ ((S2.out.blk 0 rfl).rd rfl rfl (by decide))).mono ?_; rintro e w3 ⟨q, rfl, Z⟩; have S3 := Lib.hid ((S2.out.comp Z).al #[.slice q n n] 39 w3.heap.size rfl); have yz := (S3.out.blk 3 rfl).lt; have y0 := (S3.out.blk 3 rfl).cell 0; have y1 := (S3.out.blk 3 rfl).cell 1; have y2 := (S3.out.blk 3 rfl).cell 2; have y3 := (S3.out.blk 3 rfl).cell 3; clear Z))
    | (go_at_call 94; go_must (refine (HSZ.out _).mono ?_; rintro e w2 ⟨rfl, hb⟩; have S2 := Lib.hid (((S1.out.al #[.slice po (n + 1) co, .slice pt nt ct, .slice pr nr cr, .slice pv nv cv] 136 w1.heap.size rfl).al #[.int .i64 (-1)] 3 (w1.heap.size + 1) (by simp)).call hb); clear hb))
    | (go_at_call 92; go_must (refine (HOp.out _ _ _ S0.out.ext ((S0.out.blk 0 rfl).rd rfl rfl (by decide))).mono ?_; rintro e w1 ⟨rfl, hb⟩; have S1 := Lib.hid (S0.out.call hb); clear hb)))
  clear S0 S1 S2 S3 y0 y1 y2 y3 yz
  generalize w3.heap.size = g at *
  have S5 := Lib.hid (S4.out.pick [0, 1, 2, 3, 4] (by decide) rfl : Sep w w4 [.blk b3 163 #[.func (.func 149) #[.agg #[.slice po (n + 1) co, .slice pt nt ct, .slice pr nr cr, .slice pv nv cv]] #[]], .blk b2 3 #[.int .i64 s], .blk b1 136 #[.slice po (n + 1) co, .slice pt nt ct, .slice pr nr cr, .slice pv nv cv], .blk g 39 #[.slice q n n], .own 3 1 q n n (encI (List.replicate n (-1)))])
  rw [← levRow_nil (lev nx n s) n] at S5
  clear S4 HOp HSZ HFR
  refine wpIn_wide.1 (wpIn_rangeFunc_told (F := Fence.wide) (n := 9) rfl (by omega) (gf := 128) (lb := #[.pointer (some ⟨b1, 0, none⟩), .pointer (some ⟨b2, 0, none⟩), .pointer (some ⟨b3, 0, none⟩)]) rfl trivial (enters_of Tryz.func128 (by kernel_rfl) rfl)
    (fronts_in 8 (by omega) po (n + 1) co pt nt ct pr nr cr pv nv cv b1 b2 b3 w.heap.size n s nx w4 S5.out.ext.size (S5.out.blk 2 rfl) (S5.out.blk 1 rfl) (S5.out.blk 0 rfl) hs hn rfl HIN.out (HNX.out w4 S5.out.ext))
    (fun h k => KpF.trans h k) (kpF_b S5.out.ext.size (S5.out.blk 2 rfl).lt (S5.out.blk 1 rfl).lt (S5.out.blk 0 rfl).lt) (Below.refl _ _) (fun _ => rfl)
    (fun pre W => Sep w W [.blk b3 163 #[.func (.func 149) #[.agg #[.slice po (n + 1) co, .slice pt nt ct, .slice pr nr cr, .slice pv nv cv]] #[]], .blk b2 3 #[.int .i64 s], .blk b1 136 #[.slice po (n + 1) co, .slice pt nt ct, .slice pr nr cr, .slice pv nv cv], .blk g 39 #[.slice q n n], .own 3 1 q n n (encI (levRow (lev nx n s) n (pre.map (·.1.k))))])
    (fun _ _ _ => False)
    ?hI (fun _ _ _ _ _ _ _ _ h => h) ylA_own S5.out ?a1 ?assign ?body ?done (fun D c pre W _ _ h _ => h.elim))
  case hI =>
    intro pre Z W W' hZ h1 h2 S
    refine S.far S5.out.ext.size hZ h1 h2 fun p hp k hk => ?_
    simp only [List.mem_cons, List.not_mem_nil, or_false] at hp
    rcases hp with rfl | rfl | rfl | rfl | rfl
    · exact S5.out.lt (List.mem_of_getElem? (i := 0) rfl) hk
    · exact S5.out.lt (List.mem_of_getElem? (i := 1) rfl) hk
    · exact S5.out.lt (List.mem_of_getElem? (i := 2) rfl) hk
    · exact S5.out.lt (List.mem_of_getElem? (i := 3) rfl) hk
    · exact S5.out.lt (List.mem_of_getElem? (i := 4) rfl) hk
  case assign =>
    intro l x W K hK
    simp only [ylE]
    gi_wp2
    exact hK
  case body =>
    rintro l pre ⟨⟨k, F, q', c'⟩, hF, lf⟩ W S ⟨hR, hBk⟩ hlen
    have hRd : Rd W 1 q' F.length (encI F) := hR
    have hblk : w4.heap.size ≤ (adr q' 0).block := hBk
    have HF := Lib.hid (show IsFront (lev nx n s) n k F from hF)
    have bF := Lib.hid (front_bd8 HF.out)
    have hF200 : F.length ≤ 200 := by have := bF.out.2; omega
    have pF := hRd.ptr
    have HR := Lib.hid hRd
    have hqb := S5.out.blt 4 rfl (by omega)
    have HS := Lib.hid S
    obtain ⟨X, hX⟩ : ∃ X, X = levRow (lev nx n s) n (pre.map (·.1.k)) := ⟨_, rfl⟩
    have hXl : X.length = n := by rw [hX, levRow_len]
    have HX : Hid (tkR (k:Int) F X = levRow (lev nx n s) n ((pre ++ [(⟨⟨k, F, q', c'⟩, hF, lf⟩ : YlOf nx n s)]).map (·.1.k))) := by
      unfold Hid; rw [List.map_append, hX]; exact levRow_step HF.out
    rw [← hX] at HS
    generalize (pre ++ [(⟨⟨k, F, q', c'⟩, hF, lf⟩ : YlOf nx n s)]) = pre2 at *
    clear hX S hR hBk hRd hlen
    gi_wp2
    gi_loopw [14, 37] (fun _ v37 wx => ∃ j : Nat, j ≤ F.length ∧ v37 = .int .i64 j ∧ Sep w wx [.blk b3 163 #[.func (.func 149) #[.agg #[.slice po (n + 1) co, .slice pt nt ct, .slice pr nr cr, .slice pv nv cv]] #[]], .blk b2 3 #[.int .i64 s], .blk b1 136 #[.slice po (n + 1) co, .slice pt nt ct, .slice pr nr cr, .slice pv nv cv], .blk g 39 #[.slice q n n], .own 3 1 q n n (encI (tkR (k:Int) (F.take j) X))] ∧ W.heap.size ≤ wx.heap.size ∧ Hid (∀ kk, w4.heap.size ≤ kk → wx.heap[kk]? = W.heap[kk]?)) (fun _ v37 _ => F.length - (intOf v37).toNat)
    case atStart => exact ⟨0, Nat.zero_le _, rfl, HS.out, Nat.le_refl _, fun _ _ => rfl⟩
    case round =>
      obtain ⟨j, hj, rfl, S, hsz, hup⟩ := hrel
      have g0 := (S.blk 3 rfl).cell 0
      have gz := (S.blk 3 rfl).lt
      have pq := (S.rdx 4 rfl).ptr
      by_cases hlj : j < F.length
      · have g1 := HR.out.cI hlj
        rw [← cell_eq (W' := wr) (by rw [adr_block]; exact hup.out _ hblk)] at g1
        obtain ⟨f1, f2⟩ := bF.out.1 _ (nth_mem hlj)
        have hT := tkR_take (c := (k:Int)) (X := X) hlj
        obtain ⟨a, ha⟩ : ∃ a : Nat, nth F j = (a : Int) := ⟨(nth F j).toNat, by omega⟩
        rw [ha] at g1 f1 f2 hT
        rw [Int.toNat_natCast] at hT
        have HT := Lib.hid hT
        have d1 : (0:Int) ≤ j := by omega
        have d2 : (j:Int) < F.length := by omega
        have fz := own_frozen (S.own 4 rfl) (by omega) a
        have cz := own_cell (S.own 4 rfl) (k := a) (by omega)
        have HU : Hid (∀ kk, w4.heap.size ≤ kk → (wr.setCell (adr q a) (.int .i64 k)).heap[kk]? = W.heap[kk]?) := fun kk hk => by
          rw [Below.heap_setCell wr (adr q a) _ kk (by rw [adr_block]; omega)]; exact hup.out kk hk
        have SH := Lib.hid S; clear S
        clear hT ha
        gi_wp2
        go_roundw
        case rel => exact ⟨j + 1, by omega, by go_num, by rw [HT.out, ← encI_set]; exact SH.out.setRow 4 rfl a (by omega) (.int .i64 k), by simpa using hsz, HU.out⟩
        case measure => simp [intOf]; omega
      · obtain rfl : j = F.length := by omega
        rw [List.take_length, HX.out] at S
        have SH := Lib.hid S; clear S
        gi_wp2
        exact ⟨⟨hsz, fun kk o hB ho _ => (hup.out kk hB).trans ho⟩, ⟨⟨SH.out.ext.os.trans HS.out.ext.os.symm, SH.out.ext.tape.trans HS.out.ext.tape.symm, SH.out.ext.output.trans HS.out.ext.output.symm, hsz, fun kk hk => (SH.out.ext.block kk hk).trans (HS.out.ext.block kk hk).symm⟩, (SH.out.blk 2 rfl).trans (HS.out.blk 2 rfl).symm, (SH.out.blk 1 rfl).trans (HS.out.blk 1 rfl).symm, (SH.out.blk 0 rfl).trans (HS.out.blk 0 rfl).symm, fun kk o hB ho _ => (hup.out kk hB).trans ho⟩, SH.out⟩
  case done =>
    rintro D ys W hD hys S hK
    rw [hys.1, levRow_all hs hys.2] at S
    have c4 := (S.blk 3 rfl).cell 0
    have S' := S.putObj (cells_all fun p hp => by
      simp only [List.mem_cons, List.not_mem_nil, or_false] at hp
      rcases hp with rfl | rfl | rfl | rfl | rfl
      · exact .inl ⟨_, _, _, rfl⟩
      · exact .inl ⟨_, _, _, rfl⟩
      · exact .inl ⟨_, _, _, rfl⟩
      · exact .inl ⟨_, _, _, rfl⟩
      · exact .inr ⟨_, _, _, _, _, _, rfl⟩) (.deferred none) (Nat.le_trans S5.out.ext.size hD) hK rfl
    have SH := Lib.hid S; clear S
    have SH' := Lib.hid S'; clear S'
    go_wp2
    refine ⟨by simp, .inl ⟨_, _, rfl, run_takeDeferred hK, ?_⟩⟩
    exact ⟨.tuple #[.slice q n n, .int .i64 0], by simp [results, Tryz.results67, go_sem], q, n, rfl, SH'.out.pick [4] (by decide) rfl⟩
/-- whatever is asked -/
theorem LevelsG (po : Option Addr) (no co : Nat) (O : List Int) (pt : Option Addr) (nt ct : Nat) (T : List Int) (pr : Option Addr) (nr cr : Nat) (R : List Int) (pv : Option Addr) (nv cv : Nat) (V : List Int) (s : Int) (back : Bool) (w : World) (hO : Rd w 1 po no (encI O)) (hT : Rd w 1 pt nt (encI T)) (hR : Rd w 1 pr nr (encI R)) (hV : Rd w 1 pv nv (encI V)) (hct : nt ≤ ct) (hcv : nv ≤ cv) :
    Calls Tryz.prog 67 #[.agg #[.slice po no co, .slice pt nt ct, .slice pr nr cr, .slice pv nv cv], .int .i64 s, .bool back] w fun e w' => ∃ q c, e = .returned (.tuple #[.slice q (levR (checkR O T R V) back O T R V s).length c, .int .i64 (levC (checkR O T R V) O s)]) ∧ Sep w w' [.own 3 1 q (levR (checkR O T R V) back O T R V s).length c (encI (levR (checkR O T R V) back O T R V s))] := by
  by_cases hc : levC (checkR O T R V) O s = 0
  · have hck : checkR O T R V = true := by
      apply Classical.byContradiction; intro h
      unfold levC at hc; rw [if_neg h] at hc; omega
    have hs : 0 ≤ s ∧ s < (O.length : Int) - 1 := by
      apply Classical.byContradiction; intro h
      unfold levC at hc; rw [if_pos hck, if_neg h] at hc; omega
    obtain ⟨n, hn⟩ : ∃ n, O.length = n + 1 := ⟨O.length - 1, by omega⟩
    obtain ⟨a, rfl⟩ : ∃ a : Nat, s = (a : Int) := ⟨s.toNat, by omega⟩
    have e : levR (checkR O T R V) back O T R V a = (List.range n).map fun v => lev (nxR back O T R V) n a v := by
      unfold levR; rw [if_pos hc, hn]; rfl
    have hl : ((List.range n).map fun v => lev (nxR back O T R V) n a v).length = n := by simp
    rw [hc, e]
    cases back with
    | false =>
      refine (LevelsG_out po no co O pt nt ct T pr nr cr R pv nv cv V n a w hO hT hR hV hct hcv hck hn (by omega)).mono ?_
      rintro e w' ⟨q, c, rfl, S⟩
      exact ⟨q, c, by rw [hl], by rw [hl]; exact S⟩
    | true =>
      refine (LevelsG_in po no co O pt nt ct T pr nr cr R pv nv cv V n a w hO hT hR hV hct hcv hck hn (by omega)).mono ?_
      rintro e w' ⟨q, c, rfl, S⟩
      exact ⟨q, c, by rw [hl], by rw [hl]; exact S⟩
  · have e : levR (checkR O T R V) back O T R V s = [] := by unfold levR; rw [if_neg hc]
    rw [e]
    refine (LevelsG_no po no co O pt nt ct T pr nr cr R pv nv cv V s back w hO hT hR hV hct hcv hc).mono ?_
    rintro e w' ⟨rfl, h⟩
    exact ⟨none, 0, rfl, ((Sep.start w).call h).nilrow _ _⟩
end Go.Proofs.YtkekibnhmfmhmaaGreat
/- Maps with texts as keys, whatever the elements; rows that lie apart, one of which is appended to. -/
namespace Go.Proofs.YtkekibnhmfmhmaaGreat
open Go Go.RowKit Go.Maps Go.WideElems
/-- an element, held as it is -/
def heldR (v : Value) : Option (DataW Value × List MemPlace) := some (.held v, [])
def keyT (s : ByteArray) : Lit := .string s.data.toList
theorem keyT_inj {s t : ByteArray} (h : keyT s = keyT t) : s = t := by
  unfold keyT at h; injection h with h
  exact ByteArray.ext (Array.toList_inj.1 h)
/-- block b is a map of at most n entries that reads as f -/
def MapT (P : Program) (k : TypeId) (b n : Nat) (f : ByteArray → Option Value) (w : World) : Prop :=
  ∃ D : DataW Value, w.ownsMap P k heldR b n D ∧ (∀ s, s.size ≤ 1000000 → Maps.has D (keyT s) = (f s).isSome) ∧ ∀ s v, f s = some v → s.size ≤ 1000000 ∧ ∀ zd, D.atKey (keyT s) zd = .held v
def upT (f : ByteArray → Option Value) (s : ByteArray) (v : Value) : ByteArray → Option Value := fun t => if t = s then some v else f t
section
variable {P : Program} {k e : TypeId} {b n : Nat} {f : ByteArray → Option Value} {w w' : World}
theorem MapT.lt (h : MapT P k b n f w) : b < w.heap.size := by obtain ⟨D, h1, _⟩ := h; exact h1.lt
theorem MapT.loc (h : MapT P k b n f w) (hb : w'.heap[b]? = w.heap[b]?) : MapT P k b n f w' := by
  obtain ⟨D, ⟨es, clock, h1, F, h2, h3⟩, hf⟩ := h
  exact ⟨D, ⟨es, clock, hb.trans h1, F, h2, h3⟩, hf⟩
theorem MapT.made (w : World) : MapT P k w.heap.size 0 (fun _ => none) (w.alloc (.map #[] 0)) :=
  ⟨.map [], World.ownsMap_made w P k _, fun x _ => rfl, fun x v h => by cases h⟩
def Pc.mapT (P : Program) (k : TypeId) (b n : Nat) (f : ByteArray → Option Value) : Pc :=
  ⟨fun i => i = b, fun w => MapT P k b n f w, fun _ h i hi => by subst hi; exact h.lt, fun _ _ h hi => h.loc (hi b rfl)⟩
theorem keyT_of (hk : P.underlying k = some .string) {s : ByteArray} (hs : s.size ≤ 1000000) : keyOf P k (.string s) = some (keyT s) := WideMaps.keyOf_string_mk hk (by unfold maxLen; omega)
theorem isKeyT (hk : P.underlying k = some .string) {s : ByteArray} (hs : s.size ≤ 1000000) : WideAt.IsKeyLit (keyT s) := (string_keyed hk).key (keyT_of hk hs)
theorem MapT.update {t : TypeId} (h : MapT P k b n f w) (hk : P.underlying k = some .string) (ht : P.underlying t = some (.map k e)) (hn : n < 140737488355328) {s : ByteArray} (hs : s.size ≤ 1000000) (v : Value) :
    ∃ w', (Instr.mapUpdate t (.map (some b)) (.string s) v).run P w = .ok () w' ∧ MapT P k b (n + 1) (upT f s v) w' ∧ w.grownBy w' (some b) := by
  obtain ⟨D, h1, h2, h3⟩ := h
  obtain ⟨w', hr, ho, hg⟩ := h1.update (string_keyed hk) ht (by unfold maxLen; omega) (keyT_of hk hs) (show heldR v = some (.held v, []) from rfl)
  have hm := h1.isMap
  refine ⟨w', hr, ⟨_, ho, fun y hy => ?_, fun y u hu => ?_⟩, hg⟩
  · unfold upT
    by_cases e : y = s
    · subst e; rw [has_put_same hm (isKeyT hk hs)]; simp
    · rw [has_put_other (fun h => e (keyT_inj h)), if_neg e]; exact h2 y hy
  · unfold upT at hu
    by_cases e : y = s
    · subst e; simp at hu; subst hu; exact ⟨hs, fun zd => atKey_put_same hm (isKeyT hk hs) _ _⟩
    · rw [if_neg e] at hu
      obtain ⟨g1, g2⟩ := h3 y u hu
      exact ⟨g1, fun zd => by rw [atKey_put_other (fun h => e (keyT_inj h))]; exact g2 zd⟩
theorem MapT.lookup {t : TypeId} {z : Value} (h : MapT P k b n f w) (hk : P.underlying k = some .string) (ht : P.underlying t = some (.map k e)) (hz : (zeroValue e).run P w = .ok z w) {s : ByteArray} (hs : s.size ≤ 1000000) :
    (Instr.lookup t (.map (some b)) (.string s) false).run P w = .ok ((f s).getD z) w := by
  obtain ⟨D, h1, h2, h3⟩ := h
  obtain ⟨v, ps, hr, hv⟩ := h1.lookup (string_keyed hk) ht hz (show heldR z = some (.held z, []) from rfl) (keyT_of hk hs)
  have hat : D.atKey (keyT s) (.held z) = .held ((f s).getD z) := by
    cases hf : f s with
    | none => exact atKey_of_not_has (by rw [h2 s hs, hf]; rfl) _
    | some u => exact (h3 s u hf).2 _
  unfold heldR at hv
  injection hv with hv
  injection hv with hv
  rw [hat] at hv
  injection hv with hv
  rw [hr, hv]
variable {w0 : World} {Γ : List Pc} {ops : Array Oper} {rest : List Oper} {o : Oper} {a : Act} {Q : Exit → Act → World → Prop}
theorem Sep.mkmapT (S : Sep w0 w Γ) (P : Program) (k : TypeId) : Sep w0 (w.alloc (.map #[] 0)) (.mapT P k w.heap.size 0 (fun _ => none) :: Γ) :=
  S.comp (Δ := [.mapT P k w.heap.size 0 (fun _ => none)]) ⟨Ext.alloc (Below.refl _ _) _, fun p hp => by rw [List.mem_singleton] at hp; subst hp; exact MapT.made w, fun p hp i hi => by rw [List.mem_singleton] at hp; subst hp; have : i = w.heap.size := hi; omega, List.pairwise_singleton _ _⟩
theorem Sep.mapT (S : Sep w0 w Γ) (j : Nat) (hj : Γ[j]? = some (.mapT P k b n f)) : MapT P k b n f w := S.all _ (List.mem_of_getElem? hj)
theorem wpList_updateT_sep (hg : o.guard = none) (m x v : Operand) (t : TypeId) (hop : o.op = Op.mapUpdate t m x v) (hk : P.underlying k = some .string) (ht : P.underlying t = some (.map k e))
    (hm : a.eval m = .map (some b)) (S : Sep w0 w Γ) (j : Nat) (hj : Γ[j]? = some (.mapT P k b n f)) (hn : n < 140737488355328) (s : ByteArray) (u : Value) (hx : a.eval x = .string s) (hv : a.eval v = u) (hi : s.size ≤ 1000000)
    (hK : ∀ w', Sep w0 w' (Γ.set j (.mapT P k b (n + 1) (upT f s u))) → w.grownBy w' (some b) → wpList P ops Q rest (a.put o.dst undef) w') :
    wpList P ops Q (o :: rest) a w := by
  refine wpList_plain hg fun K' hK' => ?_
  obtain ⟨w', hrun, r1, r2⟩ := MapT.update (S.mapT j hj) hk ht hn hi u
  unfold Oper.wp
  simp [execOp, hop, hm, hx, hv, hrun, Result.andThen]
  exact hK' _ _ (hK w' (S.put j hj _ r2 (fun i hi => by injection hi with hi; exact hi.symm) r1 (fun i hi => .inl hi)) r2)
end
/-- rows that lie apart from one another -/
def apartR (r s : Hd × List Value) : Prop := ∀ k, blkOf r.1.p = some k → blkOf s.1.p ≠ some k
def Pc.rowsD (e : TypeId) (size : Nat) (rows : List (Hd × List Value)) : Pc :=
  ⟨fun k => ∃ r ∈ rows, blkOf r.1.p = some k, fun w => (∀ r ∈ rows, w.ownsRow 0 e size (.slice r.1.p r.1.n r.1.c) r.1.n r.2) ∧ rows.Pairwise apartR, fun _ h _ ⟨r, hr, hk⟩ => (own_lt (h.1 r hr) hk).2, fun _ _ h hk => ⟨fun r hr => own_loc (h.1 r hr) fun k hb => hk k ⟨r, hr, hb⟩, h.2⟩⟩
section
variable {P : Program} {w0 w : World} {Γ : List Pc} {e : TypeId} {size : Nat} {rows : List (Hd × List Value)}
theorem Sep.rowsD0 (S : Sep w0 w Γ) (e : TypeId) (size : Nat) : Sep w0 w (.rowsD e size [] :: Γ) :=
  ⟨S.ext, fun p hp => by
    rcases List.mem_cons.1 hp with rfl | h
    · exact ⟨fun r hr => (nomatch hr), List.Pairwise.nil⟩
    · exact S.all p h, fun p hp k hk => by
    rcases List.mem_cons.1 hp with rfl | h
    · obtain ⟨r, hr, _⟩ := hk; cases hr
    · exact S.new p h k hk, List.pairwise_cons.2 ⟨(fun q _ k ⟨r, hr, _⟩ => nomatch hr), S.apart⟩⟩
theorem Sep.rowsAt (S : Sep w0 w Γ) (j : Nat) (hj : Γ[j]? = some (.rowsD e size rows)) : (∀ r ∈ rows, w.ownsRow 0 e size (.slice r.1.p r.1.n r.1.c) r.1.n r.2) ∧ rows.Pairwise apartR := S.all _ (List.mem_of_getElem? hj)
/-- a nil row more -/
theorem Sep.rowsNil (S : Sep w0 w Γ) (j : Nat) (hj : Γ[j]? = some (.rowsD e size rows)) : Sep w0 w (Γ.set j (.rowsD e size (rows ++ [(⟨none, 0, 0⟩, [])]))) := by
  have h := S.rowsAt j hj
  refine S.put j hj _ (World.grownBy.refl w none) (fun k hk => by cases hk) ⟨fun r hr => ?_, ?_⟩ fun k hk => ?_
  · rcases List.mem_append.1 hr with hr | hr
    · exact h.1 r hr
    · rw [List.mem_singleton] at hr; subst hr; exact World.ownsRow_nil _ _ _ _
  · rw [List.pairwise_append]
    refine ⟨h.2, List.pairwise_singleton _ _, fun r _ s hs k _ hk2 => ?_⟩
    rw [List.mem_singleton] at hs; subst hs; cases hk2
  · obtain ⟨r, hr, hk⟩ := hk
    rcases List.mem_append.1 hr with hr | hr
    · exact .inl ⟨r, hr, hk⟩
    · rw [List.mem_singleton] at hr; subst hr; cases hk
/-- **append onto one of the rows** -/
theorem wpList_append_rows {ops : Array Oper} {rest : List Oper} {o : Oper} {a : Act} {Q : Exit → Act → World → Prop} (hgd : o.guard = none) (s x : Operand) (t : TypeId)
    (ho : o.op = .call { callee := .builtin .append, args := #[s, x], argTypes := #[t, t] })
    (i : TypeInfo) (z : Value) (bytes : Nat) (ht : P.underlying t = some (.slice e)) (hi : P.info? e = some i) (hz : i.zero = some z)
    (hsize : i.size = size) (hby : i.bytes = bytes) (hzs : z.cells.size = size) (hsz : 0 < size)
    (S : Sep w0 w Γ) (j : Nat) (hj : Γ[j]? = some (.rowsD e size rows)) (r : Nat) (q : Option Addr) (n cq : Nat) (xs : List Value) (hr : rows[r]? = some (⟨q, n, cq⟩, xs)) (hs : a.eval s = .slice q n cq)
    (A : Option Addr) (m c : Nat) (news : List Value) (hx : a.eval x = .slice A m c) (hrd : Rd w size A m news) (h1 : ∀ u ∈ news, u.oneCell' = true)
    (hbytes : (n + m) * bytes ≤ 140737488355328) (h63 : n + m ≤ 140737488355328)
    (h : ∀ q' c' w', Sep w0 w' (Γ.set j (.rowsD e size (rows.set r (⟨q', n + m, c'⟩, xs ++ news)))) → w.heap.size ≤ w'.heap.size → wpList P ops Q rest (a.put o.dst (.slice q' (n + m) c')) w') : wpList P ops Q (o :: rest) a w := by
  have hrows := S.rowsAt j hj
  have hmem := List.mem_of_getElem? hr
  have hown : w.ownsRow w0.heap.size e size (.slice q n cq) n xs := own_rebase (hrows.1 _ hmem) fun k hk => S.new _ (List.mem_of_getElem? hj) k ⟨_, hmem, hk⟩
  refine wpList_append_rd hgd s x t ho w0.heap.size e i z size bytes ht hi hz hsize hby hzs hsz q n cq xs hs hown A m c news hx hrd h1 hbytes h63 S.ext.size ?_
  intro q' c' w' ho' hg hat _
  have hr1 : r < rows.length := (List.getElem?_eq_some_iff.1 hr).1
  have hnew : ∀ k, blkOf q' = some k → blkOf q = some k ∨ k = w.heap.size := fun k hk => by
    rcases hat with h | h
    · exact .inl (h.symm.trans hk)
    · have : some w.heap.size = some k := h.symm.trans hk
      injection this with this
      exact .inr this.symm
  have hset : ∀ y ∈ rows.set r (⟨q', n + m, c'⟩, xs ++ news), y = (⟨q', n + m, c'⟩, xs ++ news) ∨ ∃ i, i ≠ r ∧ rows[i]? = some y := by
    intro y hy
    obtain ⟨i, hi, rfl⟩ := List.mem_iff_getElem.1 hy
    rw [List.length_set] at hi
    rw [List.getElem_set]
    by_cases e : r = i
    · left; rw [if_pos e]
    · right; rw [if_neg e]; exact ⟨i, fun h => e h.symm, List.getElem?_eq_getElem hi⟩
  have hap : ∀ (i : Nat) y, i ≠ r → rows[i]? = some y → ∀ k, blkOf y.1.p = some k → blkOf q ≠ some k := by
    intro i y hne hy k hk hq
    obtain ⟨hi1, rfl⟩ := List.getElem?_eq_some_iff.1 hy
    obtain ⟨hr2, hre⟩ := List.getElem?_eq_some_iff.1 hr
    rcases Nat.lt_or_gt_of_ne hne with h | h
    · have := List.pairwise_iff_getElem.1 hrows.2 i r hi1 hr2 h k hk
      rw [hre] at this; exact this hq
    · have := List.pairwise_iff_getElem.1 hrows.2 r i hr2 hi1 h k (by rw [hre]; exact hq)
      exact this hk
  refine h q' c' w' (S.put j hj _ hg (fun k hk => ⟨_, hmem, hk⟩) ⟨fun y hy => ?_, ?_⟩ fun k hk => ?_) hg.size
  · rcases hset y hy with rfl | ⟨i, hne, hi⟩
    · exact own_base ho' (Nat.zero_le _)
    · have hy1 := hrows.1 y (List.mem_of_getElem? hi)
      refine own_loc hy1 fun k hk => hg.block k (own_lt hy1 hk).2 fun e => hap i y hne hi k hk e.symm
  · rw [List.pairwise_iff_getElem]
    intro a b ha hb hab k hka hkb
    rw [List.length_set] at ha hb
    rw [List.getElem_set] at hka hkb
    have key : ∀ i (hi : i < rows.length), i ≠ r → blkOf q' = some k → blkOf (rows[i]).1.p = some k → False := by
      intro i hi hne h1 h2
      rcases hnew k h1 with h | h
      · exact hap i _ hne (List.getElem?_eq_getElem hi) k h2 h
      · have := (own_lt (hrows.1 _ (List.getElem_mem hi)) h2).2; omega
    by_cases e1 : r = a
    · rw [if_pos e1] at hka
      rw [if_neg (by omega)] at hkb
      exact key b hb (by omega) hka hkb
    · rw [if_neg e1] at hka
      by_cases e2 : r = b
      · rw [if_pos e2] at hkb
        exact key a ha (fun h => e1 h.symm) hkb hka
      · rw [if_neg e2] at hkb
        exact List.pairwise_iff_getElem.1 hrows.2 a b ha hb hab k hka hkb
  · obtain ⟨y, hy, hk⟩ := hk
    rcases hset y hy with rfl | ⟨i, _, hi⟩
    · rcases hnew k hk with h | h
      · exact .inl ⟨_, hmem, h⟩
      · exact .inr (by omega)
    · exact .inl ⟨y, List.mem_of_getElem? hi, hk⟩
end
end Go.Proofs.YtkekibnhmfmhmaaGreat
/- The program's Make of postings. -/
namespace Go.Proofs.YtkekibnhmfmhmaaGreat
open Go Go.RowKit
theorem zeroL (w : World) : (zeroValue 39).run Tryz.prog w = .ok (.slice none 0 0) w := by kernel_rfl
/-- what has been gathered, in memory -/
structure GS (w wr : World) (b g : Nat) (cs : Array Value) (O : List Occ) (A : List Po) (hs : List Hd) (q : Option Addr) (c : Nat) (f : ByteArray → Option Value) : Prop where
  len : hs.length = A.length
  gath : Gath O A
  some_ : ∀ r, r < A.length → f (nth A r).1 = some (nth hs r).v
  none_ : ∀ s, s ∉ A.map (·.1) → f s = none
  sep : Sep w wr [.rowsD 3 1 (rowsP A hs), .own 9 1 q A.length c (encS (A.map (·.1))), .mapT Tryz.prog 9 b O.length f, .blk g 112 cs]
theorem rowsP_set {A : List Po} {hs : List Hd} {r : Nat} {p : Po} {h : Hd} : rowsP (A.set r p) (hs.set r h) = (rowsP A hs).set r (h, encI p.2) := by
  unfold rowsP
  rw [List.map_set]
  apply List.ext_getElem?
  intro i
  simp only [List.zip, List.getElem?_zipWith, List.getElem?_set, List.length_zipWith]
  by_cases e : r = i
  · subst e
    by_cases h1 : r < hs.length <;> by_cases h2 : r < A.length <;> simp [h1, h2] <;> omega
  · simp [e]
theorem rowsP_get {A : List Po} {hs : List Hd} {r : Nat} (h : hs.length = A.length) (hr : r < A.length) : (rowsP A hs)[r]? = some (nth hs r, encI (nth A r).2) := by
  unfold rowsP
  rw [nth_eq (by omega), nth_eq hr, List.getElem?_eq_getElem (by simp; omega)]
  simp
theorem nth_set_eq {α : Type} [Inhabited α] {l : List α} {r : Nat} {x : α} (h : r < l.length) : nth (l.set r x) r = x := by rw [nth_eq (by simpa using h)]; simp
theorem nth_set_ne {α : Type} [Inhabited α] {l : List α} {r i : Nat} {x : α} (h : i ≠ r) (hi : i < l.length) : nth (l.set r x) i = nth l i := by rw [nth_eq (by simpa using hi), nth_eq hi, List.getElem_set_ne (fun e => h e.symm)]
/-- a word that is new -/
theorem GS.new {w wr : World} {b g : Nat} {cs : Array Value} {O : List Occ} {A : List Po} {hs : List Hd} {q : Option Addr} {c : Nat} {f : ByteArray → Option Value} (G : GS w wr b g cs O A hs q c f) {s : ByteArray} (hs' : s ∉ A.map (·.1)) {v : Int} {wn : World} {q1 q2 : Option Addr} {c1 c2 : Nat}
    (S : Sep w wn [.rowsD 3 1 ((rowsP A hs ++ [((⟨none, 0, 0⟩ : Hd), ([] : List Value))]).set A.length ((⟨q2, 1, c2⟩ : Hd), [Value.int .i64 v])), .own 9 1 q1 (A.length + 1) c1 (encS (A.map (·.1)) ++ encS [s]), .mapT Tryz.prog 9 b (O.length + 1) (upT f s (.slice q2 1 c2)), .blk g 112 cs]) :
    GS w wn b g cs (O ++ [(v, s)]) (A ++ [(s, [v])]) (hs ++ [⟨q2, 1, c2⟩]) q1 c1 (upT f s (.slice q2 1 c2)) := by
  have hlen : (rowsP A hs).length = A.length := by unfold rowsP; simp [G.len]
  have hrow : (rowsP A hs ++ [((⟨none, 0, 0⟩ : Hd), ([] : List Value))]).set A.length ((⟨q2, 1, c2⟩ : Hd), [Value.int .i64 v]) = rowsP (A ++ [(s, [v])]) (hs ++ [⟨q2, 1, c2⟩]) := by
    rw [rowsP_snoc _ _ _ _ G.len, List.set_append_right _ _ (by omega), hlen, Nat.sub_self]; rfl
  refine ⟨by simp [G.len], G.gath.new hs', fun r hr => ?_, fun t ht => ?_, ?_⟩
  · rw [List.length_append, List.length_singleton] at hr
    by_cases e : r < A.length
    · rw [nth_append_left _ _ _ e, nth_append_left _ _ _ (by rw [G.len]; exact e)]
      unfold upT
      rw [if_neg]
      · exact G.some_ r e
      · rintro he
        exact hs' (by rw [← he, nth_eq e]; exact List.mem_map_of_mem (List.getElem_mem _))
    · have e1 : r = A.length := by omega
      subst e1
      have a1 : nth (A ++ [(s, [v])]) A.length = (s, [v]) := nth_append_new _ _
      have a2 : nth (hs ++ [(⟨q2, 1, c2⟩ : Hd)]) A.length = ⟨q2, 1, c2⟩ := by rw [← G.len]; exact nth_append_new _ _
      rw [a1, a2]; unfold upT; simp [Hd.v]
  · rw [List.map_append, List.mem_append, not_or] at ht
    unfold upT
    rw [if_neg (by simpa using ht.2)]
    exact G.none_ t ht.1
  · rw [hrow, ← encS_append] at S
    simpa using S
/-- a word that was there -/
theorem GS.more {w wr : World} {b g : Nat} {cs : Array Value} {O : List Occ} {A : List Po} {hs : List Hd} {q : Option Addr} {c : Nat} {f : ByteArray → Option Value} (G : GS w wr b g cs O A hs q c f) {r : Nat} (hr : r < A.length) {v : Int} {wn : World} {q2 : Option Addr} {m2 c2 : Nat}
    (S : Sep w wn [.rowsD 3 1 ((rowsP A hs).set r ((⟨q2, m2, c2⟩ : Hd), encI (nth A r).2 ++ encI [v])), .own 9 1 q A.length c (encS (A.map (·.1))), .mapT Tryz.prog 9 b (O.length + 1) (upT f (nth A r).1 (.slice q2 m2 c2)), .blk g 112 cs]) :
    GS w wn b g cs (O ++ [(v, (nth A r).1)]) (A.set r ((nth A r).1, (nth A r).2 ++ [v])) (hs.set r ⟨q2, m2, c2⟩) q c (upT f (nth A r).1 (.slice q2 m2 c2)) := by
  have hmap : (A.set r ((nth A r).1, (nth A r).2 ++ [v])).map (·.1) = A.map (·.1) := by
    rw [List.map_set]
    have e : (nth A r).1 = (A.map (·.1))[r]'(by simpa using hr) := by rw [nth_eq hr, List.getElem_map]
    show (A.map (·.1)).set r (nth A r).1 = _
    rw [e, List.set_getElem_self]
  refine ⟨by simp [G.len], G.gath.more hr, fun i hi => ?_, fun t ht => ?_, ?_⟩
  · rw [List.length_set] at hi
    by_cases e : i = r
    · subst e
      rw [nth_set_eq hr, nth_set_eq (by rw [G.len]; exact hr)]
      unfold upT; simp [Hd.v]
    · rw [nth_set_ne e hi, nth_set_ne e (by rw [G.len]; exact hi)]
      unfold upT
      rw [if_neg]
      · exact G.some_ i hi
      · rw [nth_eq hi, nth_eq hr]
        intro he
        exact nodup_ne G.gath.nodup (i := i) (j := r) (by simpa using hi) (by simpa using hr) e (by simpa using he)
  · rw [hmap] at ht
    unfold upT
    rw [if_neg]
    · exact G.none_ t ht
    · rintro rfl
      exact ht (by rw [nth_eq hr]; exact List.mem_map_of_mem (List.getElem_mem _))
  · rw [hmap, rowsP_set, List.length_set, encI_append]
    simpa using S
theorem RdP.of_rows {w0 w : World} {Γ : List Pc} (S : Sep w0 w Γ) (j i : Nat) {q : Option Addr} {n c : Nat} {rows : List (Hd × List Value)} {F : List Hd} {L : List Po} (hj : Γ[j]? = some (.rowsD 3 1 rows)) (hi : Γ[i]? = some (.own 98 2 q n c (encPo L F))) (hl : F.length = L.length) (hr : ∀ a, a < L.length → (nth F a, encI (nth L a).2) ∈ rows) : RdP w q n F L := by
  have ho := S.own i hi
  have hr1 := Rd.of_own ho (own_small ho)
  have hn : n = L.length := by have := ho.1; rw [encPo_len L F hl] at this; omega
  refine ⟨hn, hr1.ptr, hr1.small, fun k hk => ?_, fun k hk => ?_, fun k hk => ?_⟩
  · rw [hr1.cells (k * 2) (by omega), (encPo_get L F k hl (by omega)).1]
  · rw [hr1.cells (k * 2 + 1) (by omega), (encPo_get L F k hl (by omega)).2]; rfl
  · have h1 := (S.rowsAt j hj).1 _ (hr k (by omega))
    exact Rd.of_own h1 (own_small h1)
theorem infT : (Tryz.prog.info? 9).map (fun i => (i.zero, i.size, i.bytes)) = some (some (.string ByteArray.empty), 1, 16) := by kernel_rfl
theorem infJ : (Tryz.prog.info? 3).map (fun i => (i.zero, i.size, i.bytes)) = some (some (.int .i64 0), 1, 8) := by kernel_rfl
theorem one_int (x : Int) : ∀ u ∈ [Value.int .i64 x], u.oneCell' = true := by intro u hu; simp at hu; subst hu; rfl
theorem one_str (x : ByteArray) : ∀ u ∈ [Value.string x], u.oneCell' = true := by intro u hu; simp at hu; subst hu; rfl
theorem MapT.size {P : Program} {k : TypeId} {b n : Nat} {f : ByteArray → Option Value} {w : World} (h : MapT P k b n f w) {s : ByteArray} {v : Value} (hf : f s = some v) : s.size ≤ 1000000 := by
  obtain ⟨D, _, _, h3⟩ := h
  exact (h3 s v hf).1
theorem isB_check {N : Int} {E : List (Int × Int)} {W : List (List ByteArray)} (h : isB N E W = true) : checkB N E W = true := by
  cases hc : checkB N E W with
  | true => rfl
  | false => rw [isB_chk hc] at h; cases h
/-- the row of a word -/
def hdOf (f : ByteArray → Option Value) (s : ByteArray) : Hd := match f s with | some (.slice p n c) => ⟨p, n, c⟩ | _ => ⟨none, 0, 0⟩
theorem hdOf_eq {f : ByteArray → Option Value} {s : ByteArray} {h : Hd} (e : f s = some h.v) : hdOf f s = h := by unfold hdOf; rw [e]; rfl
theorem GS.look {w wr : World} {b g : Nat} {cs : Array Value} {O : List Occ} {A : List Po} {hs : List Hd} {q : Option Addr} {c : Nat} {f : ByteArray → Option Value} (G : GS w wr b g cs O A hs q c f) {s : ByteArray} (h : s ∈ A.map (·.1)) :
    ∃ r, r < A.length ∧ (nth A r).1 = s ∧ f s = some (nth hs r).v ∧ (nth hs r).n = (plc O s).length ∧ 0 < (nth hs r).n ∧ (nth hs r).n ≤ O.length ∧ s.size ≤ 1000000 := by
  obtain ⟨r, hr, h1, h2⟩ := G.gath.find h
  have hf := G.some_ r hr
  rw [h1] at hf
  have hrow := (G.sep.rowsAt 0 rfl).1 _ (List.mem_of_getElem? (rowsP_get G.len hr))
  have hl : (plc O s).length = (nth hs r).n * 1 := by have h3 := hrow.1; rw [encI_len, h2] at h3; exact h3
  have hp : 0 < (plc O s).length := by
    refine List.length_pos_iff.2 fun e => ?_
    obtain ⟨x, hx, e2⟩ := (G.gath.keys s).1 h
    exact plc_nil.1 e x hx e2
  have := plc_len O s
  exact ⟨r, hr, h1, hf, by omega, by omega, by omega, (G.sep.mapT 2 rfl).size hf⟩
end Go.Proofs.YtkekibnhmfmhmaaGreat
namespace Go.Proofs.YtkekibnhmfmhmaaGreat
open Go Go.RowKit
end Go.Proofs.YtkekibnhmfmhmaaGreat
/- The reference's Make of postings. -/
namespace Go.Proofs.YtkekibnhmfmhmaaGreat
open Go Go.RowKit
theorem flatW_len {W : List (List ByteArray)} (h : ∀ l ∈ W, l.length ≤ 8) : ∀ k, (W.take k).flatten.length ≤ 8 * k
  | 0 => by simp
  | k + 1 => by
    by_cases hk : k < W.length
    · have ih := flatW_len h k
      rw [take_succ_nth W k hk, List.flatten_append, List.length_append]
      have h2 := h (nth W k) (by rw [nth_eq hk]; exact List.getElem_mem _)
      have h3 : ([nth W k] : List (List ByteArray)).flatten.length = (nth W k).length := by simp
      omega
    · have ih := flatW_len h k
      rw [List.take_of_length_le (by omega)] at ih ⊢; omega
theorem flatW_step {W : List (List ByteArray)} {k : Nat} (h : k < W.length) : (W.take (k + 1)).flatten = (W.take k).flatten ++ nth W k := by
  rw [take_succ_nth W k h, List.flatten_append]; simp
end Go.Proofs.YtkekibnhmfmhmaaGreat
/- Postings: the same; too many; few words. -/
namespace Go.Proofs.YtkekibnhmfmhmaaGreat
open Go Go.RowKit Go.Maps
set_option maxRecDepth 100000 in
set_option maxHeartbeats 1000000 in
theorem Same05 (p q : Option Addr) (n m c d : Nat) (hs ht : List Hd) (L M : List Po) (w : World) (hL : RdP w p n hs L) (hM : RdP w q m ht M) :
    Calls Tryz.prog 35 #[.slice p n c, .slice q m d] w fun e w' => e = .returned (.bool (decide (L = M))) ∧ Ext w w' := by
  have p1 := hL.ptr
  have p2 := hM.ptr
  have n1 := hL.small
  have n2 := hM.small
  have L1 := Lib.hid hL.hn
  have L2 := Lib.hid hM.hn
  have HL := Lib.hid hL; clear hL
  have HM := Lib.hid hM; clear hM
  by_cases hnm : n = m
  · subst hnm
    have hl := Lib.hid (L1.out.symm.trans L2.out)
    go_enter Tryz.func35, Tryz.ntmps35
    go_wp2
    go_loopw [5] (fun i wr => ∃ k : Nat, k ≤ n ∧ i = .int .i64 k ∧ L.take k = M.take k ∧ Ext w wr) (fun i _ => n - (intOf i).toNat)
    case atStart => exact ⟨0, Nat.zero_le _, rfl, rfl, Below.refl _ _⟩
    case round =>
      obtain ⟨k, hk, rfl, he, hb⟩ := hrel
      have HE := Lib.hid he; clear he
      have HB := Lib.hid hb; clear hb
      by_cases hlt : k < n
      · have g1 := HB.out.cell (HL.out.c1 k hlt)
        have g2 := HB.out.cell (HL.out.c2 k hlt)
        have g3 := HB.out.cell (HM.out.c1 k hlt)
        have g4 := HB.out.cell (HM.out.c2 k hlt)
        have x1 := fun x : ExtOf wr => x.ext.cell g1
        have x2 := fun x : ExtOf wr => x.ext.cell g2
        have x3 := fun x : ExtOf wr => x.ext.cell g3
        have x4 := fun x : ExtOf wr => x.ext.cell g4
        have d1 : (0:Int) ≤ k := by omega
        have d2 : (k:Int) < n := by omega
        have HI := Lib.hid (fun x : ExtOf wr => Ints01 (nth hs k).p (nth ht k).p (nth hs k).n (nth ht k).n (nth hs k).c (nth ht k).c (nth L k).2 (nth M k).2 x.val (((HL.out.each k hlt).ext HB.out).ext x.ext) (((HM.out.each k hlt).ext HB.out).ext x.ext))
        have hb0 := Lib.hid (str_beq (nth L k).1 (nth M k).1)
        by_cases hw : (nth L k).1 = (nth M k).1
        · have hb1 : ((nth L k).1.toList == (nth M k).1.toList) = true := by rw [hb0.out]; simp [hw]
          by_cases hp : (nth L k).2 = (nth M k).2
          · rw [decide_eq_true hp] at HI
            have HN : Hid (nth L k = nth M k) := Prod.ext hw hp
            clear hw hp
            go_wp2
            refine wp_region_ext (by kernel_rfl) (by kernel_rfl) ?_
            repeat (go_big_quiet_step (((go_at_call 38; exact Calls.ext_of (HI.out _)))))
            refine wpQuiet_nil ?_
            rintro w1 ⟨⟨_, hb1⟩, rfl⟩
            go_wp2
            go_roundw
            case rel => exact ⟨k + 1, by omega, by go_num, eq_step hl.out (by rw [← L1.out]; exact hlt) HE.out HN.out, Ext.trans HB.out hb1⟩
            case measure => simp [intOf]; omega
          · rw [decide_eq_false hp] at HI
            have HN : Hid (nth L k ≠ nth M k) := fun h => hp (by rw [h])
            clear hw hp
            go_wp2
            refine wp_region_ext (by kernel_rfl) (by kernel_rfl) ?_
            repeat (go_big_quiet_step (((go_at_call 38; exact Calls.ext_of (HI.out _)))))
            refine wpQuiet_nil ?_
            rintro w1 ⟨⟨_, hb1⟩, rfl⟩
            go_wp2
            go_ret
            exact ⟨ret_bool (by rw [decide_eq_false (eq_no hl.out (by rw [← L1.out]; exact hlt) HN.out)]), Ext.trans HB.out hb1⟩
        · have hb1 : ((nth L k).1.toList == (nth M k).1.toList) = false := by rw [hb0.out]; simp [hw]
          have HN : Hid (nth L k ≠ nth M k) := fun h => hw (by rw [h])
          clear hw
          go_wp2
          refine wp_region_ext (by kernel_rfl) (by kernel_rfl) ?_
          repeat (go_big_quiet_step (((go_at_call 38; exact Calls.ext_of (HI.out _)))))
          refine wpQuiet_nil ?_
          rintro w1 ⟨⟨_, hb1⟩, rfl⟩
          go_wp2
          go_ret
          exact ⟨ret_bool (by rw [decide_eq_false (eq_no hl.out (by rw [← L1.out]; exact hlt) HN.out)]), Ext.trans HB.out hb1⟩
      · go_wp2
        go_ret
        exact ⟨ret_bool (by rw [decide_eq_true (eq_end hl.out (by rw [← L1.out]; exact hlt) HE.out)]), HB.out⟩
  · have h1 : ((n : Int) != (m : Int)) = true := by rw [bne_iff_ne]; omega
    have hne : L ≠ M := by rintro rfl; exact hnm (L1.out.trans L2.out.symm)
    have HN := Lib.hid hne; clear hne hnm
    go_enter Tryz.func35, Tryz.ntmps35
    go_wp2
    go_ret
    exact ⟨ret_bool (by rw [decide_eq_false HN.out]), Below.refl _ _⟩
def fewB (ws : List ByteArray) : Bool := ws.all (fun s => decide (s.size ≤ 60)) && decide (ws.length ≤ 12)
def badPo (p : Po) : Bool := decide (60 < p.1.size) || decide (60 < p.2.length)
def bigP (L : List Po) : Bool := (decide (L.length ≤ 40) && L.any badPo) || decide (40 < L.length)
theorem Big05 (p : Option Addr) (n c : Nat) (hs : List Hd) (L : List Po) (w : World) (hL : RdP w p n hs L) :
    Calls Tryz.prog 44 #[.slice p n c] w fun e w' => e = .returned (.bool (bigP L)) ∧ Ext w w' := by
  have p1 := hL.ptr
  have n1 := hL.small
  have L1 := Lib.hid hL.hn
  have HL := Lib.hid hL; clear hL
  by_cases h40 : n ≤ 40
  · have b0 : decide ((n : Int) ≤ 40) = true := by simp; omega
    have b0n : decide (n ≤ 40) = true := by simp; omega
    go_enter Tryz.func44, Tryz.ntmps44
    go_wp2
    go_loop [3] (fun i => ∃ k : Nat, k ≤ n ∧ i = .int .i64 k ∧ (L.take k).any badPo = false) (fun i => n - (intOf i).toNat)
    case atStart => exact ⟨0, Nat.zero_le _, rfl, rfl⟩
    case round =>
      obtain ⟨k, hk, rfl, ha⟩ := hrel
      have HA := Lib.hid ha; clear ha
      by_cases hlt : k < n
      · have g1 := HL.out.c1 k hlt
        have g2 := HL.out.c2 k hlt
        have LE := Lib.hid (HL.out.each k hlt).nI
        have d1 : (0:Int) ≤ k := by omega
        have d2 : (k:Int) < n := by omega
        have hkL : k < L.length := by rw [← L1.out]; exact hlt
        have HT : Hid (badPo (nth L k) = true → bigP L = true) := fun h => by unfold bigP; rw [any_true_at badPo L k hkL h, decide_eq_true (by rw [← L1.out]; exact h40)]; rfl
        by_cases h6 : 60 < (nth L k).1.size
        · have HF : Hid (bigP L = true) := HT.out (by unfold badPo; simp [h6])
          go_wp2
          go_ret
          exact ⟨ret_bool HF.out.symm, Below.refl _ _⟩
        · by_cases h7 : 60 < (nth hs k).n
          · have HF : Hid (bigP L = true) := HT.out (by unfold badPo; rw [← LE.out]; simp [h7])
            go_wp2
            go_ret
            exact ⟨ret_bool HF.out.symm, Below.refl _ _⟩
          · have HF := Lib.hid (any_step badPo L k hkL HA.out (by unfold badPo; rw [← LE.out]; simp; omega))
            go_wp2
            go_round
            case rel => exact ⟨k + 1, by omega, by go_num, HF.out⟩
            case measure => simp [intOf]; omega
      · have HF : Hid (bigP L = false) := by unfold Hid bigP; rw [any_end badPo L k (by rw [← L1.out]; exact hlt) HA.out, ← L1.out]; simp; omega
        go_wp2
        go_ret
        exact ⟨ret_bool (by rw [HF.out]; simp; try omega), Below.refl _ _⟩
  · have b0 : decide ((n : Int) ≤ 40) = false := by simp; omega
    have b0n : decide (n ≤ 40) = false := by simp; omega
    have HF : Hid (bigP L = true) := by unfold Hid bigP; rw [← L1.out]; simp; omega
    go_enter Tryz.func44, Tryz.ntmps44
    go_wp2
    refine wp_loop_rounds 1 ?_
    rw [rounds_succ]
    go_wp2
    go_ret
    exact ⟨ret_bool (by rw [HF.out]; simp; try omega), Below.refl _ _⟩
end Go.Proofs.YtkekibnhmfmhmaaGreat
/- The document's example postings. -/
namespace Go.Proofs.YtkekibnhmfmhmaaGreat
open Go Go.RowKit
abbrev tA : ByteArray := ⟨#[97]⟩
abbrev tB : ByteArray := ⟨#[98]⟩
abbrev tC : ByteArray := ⟨#[99]⟩
theorem ab : sLess tA tB = true := by unfold sLess; rw [ByteArray.toList_eq, ByteArray.toList_eq]; rfl
theorem ba : sLess tB tA = false := by unfold sLess; rw [ByteArray.toList_eq, ByteArray.toList_eq]; rfl
theorem aa : sLess tA tA = false := sLess_irrefl _
theorem bb : sLess tB tB = false := sLess_irrefl _
theorem anb : tA ≠ tB := by decide
def wantL : List Po := [(tA, [0]), (tB, [0, 1])]
def exWW : List (List ByteArray) := [[tA, tB], [tB]]
theorem exS5 : putAll sLess exWW.flatten = [tA, tB] := by
  show putAll sLess [tA, tB, tB] = _
  unfold putAll
  rw [List.foldl_cons, List.foldl_cons, List.foldl_cons, List.foldl_nil, putL_nil]
  simp only [putL_cons, putL_nil, ab, bb, anb, if_true, if_false, Bool.false_eq_true]
theorem exMP : makeP exWW = wantL := by
  unfold makeP
  rw [exS5]
  rfl
theorem exC5 : checkB 2 [] exWW = true := by decide
theorem exI5 : isB 2 [] exWW = true := by
  unfold isB; rw [exC5]
  have h1 : riseB lessE [] = true := by decide
  have h2 : riseB sLess [tA, tB] = true := by simp [riseB, riseAt, nth, ab]
  have h3 : riseB sLess [tB] = true := by simp [riseB]
  rw [h1]; simp [exWW, h2, h3]
theorem exAl1 : allS wantL [tA, tB] = [0] := by decide
theorem exAn1 : anyS wantL [tA, tB] = [0, 1] := by decide
theorem exAl2 : allS wantL [tC] = [] := by decide
theorem exCk2 : checkP 2 wantL = true := by
  have h1 : wordB tA = true := by decide
  have h2 : wordB tB = true := by decide
  have h3 : riseP 2 [0] = true := by decide
  have h4 : riseP 2 [0, 1] = true := by decide
  simp [checkP, okP, wantL, nth, List.range_succ, h1, h2, h3, h4, ab]
theorem exCk1 : checkP 1 wantL = false := by
  have h4 : riseP 1 [0, 1] = false := by decide
  simp [checkP, okP, wantL, nth, List.range_succ, h4]
theorem exOk : PoOk wantL := by
  intro p hp
  simp [wantL] at hp
  rcases hp with rfl | rfl
  · exact ⟨by decide, fun x hx => by simp at hx; subst hx; exact I64.of (by omega) (by omega)⟩
  · refine ⟨by decide, fun x hx => ?_⟩
    simp at hx
    rcases hx with rfl | rfl <;> exact I64.of (by omega) (by omega)
theorem exSz : PoSz wantL := by
  intro p hp
  simp [wantL] at hp
  rcases hp with rfl | rfl <;> decide
/-- the example's rows where they lie -/
def hsWant (b : Nat) : List Hd := [⟨some ⟨b, 0, none⟩, 1, 1⟩, ⟨some ⟨b + 1, 0, none⟩, 2, 2⟩]
theorem rdWant {W : World} {b : Nat} {t1 t2 t3 : TypeId} (h1 : Blk W b t1 #[.int .i64 0]) (h2 : Blk W (b + 1) t2 #[.int .i64 0, .int .i64 1]) (h3 : Blk W (b + 1 + 1) t3 #[.string tA, .slice (some ⟨b, 0, none⟩) 1 1, .string tB, .slice (some ⟨b + 1, 0, none⟩) 2 2]) :
    RdP W (some ⟨b + 1 + 1, 0, none⟩) 2 (hsWant b) wantL := by
  have h := h3.rd (size := 2) (n := 2) (xs := [.string tA, .slice (some ⟨b, 0, none⟩) 1 1, .string tB, .slice (some ⟨b + 1, 0, none⟩) 2 2]) rfl rfl (by decide)
  refine ⟨rfl, h.ptr, h.small, fun k hk => ?_, fun k hk => ?_, fun k hk => ?_⟩
  · have : k = 0 ∨ k = 1 := by omega
    rcases this with rfl | rfl <;> exact h.cells _ (by omega)
  · have : k = 0 ∨ k = 1 := by omega
    rcases this with rfl | rfl <;> exact h.cells _ (by omega)
  · have : k = 0 ∨ k = 1 := by omega
    rcases this with rfl | rfl
    · exact h1.rd rfl rfl (by show (1:Nat) ≤ _; omega)
    · exact h2.rd rfl rfl (by show (2:Nat) ≤ _; omega)
theorem exWant (w : World) : RdP (((w.alloc (.cells #[.int .i64 0] 3)).alloc (.cells #[.int .i64 0, .int .i64 1] 3)).alloc (.cells #[.string ⟨#[97]⟩, .slice (some ⟨w.heap.size, 0, none⟩) 1 1, .string ⟨#[98]⟩, .slice (some ⟨w.heap.size + 1, 0, none⟩) 2 2] 98)) (some ⟨w.heap.size + 1 + 1, 0, none⟩) 2 (hsWant w.heap.size) wantL ∧ Ext w (((w.alloc (.cells #[.int .i64 0] 3)).alloc (.cells #[.int .i64 0, .int .i64 1] 3)).alloc (.cells #[.string ⟨#[97]⟩, .slice (some ⟨w.heap.size, 0, none⟩) 1 1, .string ⟨#[98]⟩, .slice (some ⟨w.heap.size + 1, 0, none⟩) 2 2] 98)) ∧ (((w.alloc (.cells #[.int .i64 0] 3)).alloc (.cells #[.int .i64 0, .int .i64 1] 3)).alloc (.cells #[.string ⟨#[97]⟩, .slice (some ⟨w.heap.size, 0, none⟩) 1 1, .string ⟨#[98]⟩, .slice (some ⟨w.heap.size + 1, 0, none⟩) 2 2] 98)).heap.size = w.heap.size + 1 + 1 + 1 := by
  obtain ⟨a1, a2, a3, a4⟩ := alloc3B w #[.int .i64 0] #[.int .i64 0, .int .i64 1] #[.string ⟨#[97]⟩, .slice (some ⟨w.heap.size, 0, none⟩) 1 1, .string ⟨#[98]⟩, .slice (some ⟨w.heap.size + 1, 0, none⟩) 2 2] 3 3 98
  exact ⟨rdWant a1 a2 a3, a4, by simp⟩
theorem exAllA (w : World) (p : Option Addr) (hs : List Hd) (h : RdP w p 2 hs wantL) : Calls Tryz.prog 40 #[.slice p 2 2, .slice (some ⟨w.heap.size, 0, none⟩) 2 2] (w.alloc (.cells #[.string ⟨#[97]⟩, .string ⟨#[98]⟩] 9)) fun e w' => ∃ q c, e = .returned (.tuple #[.slice q 1 c, .int .i64 0]) ∧ Rd w' 1 q 1 (encI [0]) ∧ Ext w w' := by
  have he : Ext w (w.alloc (.cells #[.string ⟨#[97]⟩, .string ⟨#[98]⟩] 9)) := Ext.alloc (Below.refl _ _) _
  refine (AllG p 2 2 hs wantL _ 2 2 [tA, tB] _ (h.ext he) exOk (Rd.new w 9 [.string ⟨#[97]⟩, .string ⟨#[98]⟩] 2 1 rfl (by decide)) (by decide) (by decide) (by decide)).mono ?_
  rintro e w' ⟨q, c, rfl, S⟩
  rw [exAl1] at S ⊢
  exact ⟨q, c, rfl, S.rd 0 rfl (by decide), Ext.trans he S.ext⟩
theorem exAllC (w : World) (p : Option Addr) (hs : List Hd) (h : RdP w p 2 hs wantL) : Calls Tryz.prog 40 #[.slice p 2 2, .slice (some ⟨w.heap.size, 0, none⟩) 1 1] (w.alloc (.cells #[.string ⟨#[99]⟩] 9)) fun e w' => ∃ q c, e = .returned (.tuple #[.slice q 0 c, .int .i64 0]) ∧ Ext w w' := by
  have he : Ext w (w.alloc (.cells #[.string ⟨#[99]⟩] 9)) := Ext.alloc (Below.refl _ _) _
  refine (AllG p 2 2 hs wantL _ 1 1 [tC] _ (h.ext he) exOk (Rd.new w 9 [.string ⟨#[99]⟩] 1 1 rfl (by decide)) (by decide) (by decide) (by decide)).mono ?_
  rintro e w' ⟨q, c, rfl, S⟩
  rw [exAl2] at S ⊢
  exact ⟨q, c, rfl, Ext.trans he S.ext⟩
theorem exInts (w : World) (q : Option Addr) (n c : Nat) (l : List Int) (h : Rd w 1 q n (encI l)) (hn : n ≤ 100) : Calls Tryz.prog 38 #[.slice q n c, .slice (some ⟨w.heap.size, 0, none⟩) n n] (w.alloc (.cells (encI l).toArray 3)) fun e w' => e = .returned (.bool true) ∧ Ext w w' := by
  have he : Ext w (w.alloc (.cells (encI l).toArray 3)) := Ext.alloc (Below.refl _ _) _
  refine (Ints01 q _ n n c n l l _ (h.ext he) (Rd.new w 3 (encI l) n 1 h.len (by omega))).mono ?_
  rintro e w' ⟨rfl, h1⟩
  exact ⟨by simp, Ext.trans he h1⟩
theorem exInts0 (w : World) (q : Option Addr) (c : Nat) (h : Rd w 1 q 1 (encI [0])) : Calls Tryz.prog 38 #[.slice q 1 c, .slice (some ⟨w.heap.size, 0, none⟩) 1 1] (w.alloc (.cells #[.int .i64 0] 3)) fun e w' => e = .returned (.bool true) ∧ Ext w w' := exInts w q 1 c [0] h (by decide)
theorem exInts01 (w : World) (q : Option Addr) (c : Nat) (h : Rd w 1 q 2 (encI [0, 1])) : Calls Tryz.prog 38 #[.slice q 2 c, .slice (some ⟨w.heap.size, 0, none⟩) 2 2] (w.alloc (.cells #[.int .i64 0, .int .i64 1] 3)) fun e w' => e = .returned (.bool true) ∧ Ext w w' := exInts w q 2 c [0, 1] h (by decide)
theorem exAllW (w : World) : Calls Tryz.prog 40 #[.slice (some ⟨w.heap.size + 1 + 1, 0, none⟩) 2 2, .slice (some ⟨w.heap.size + 1 + 1 + 1, 0, none⟩) 2 2] ((((w.alloc (.cells #[.int .i64 0] 3)).alloc (.cells #[.int .i64 0, .int .i64 1] 3)).alloc (.cells #[.string ⟨#[97]⟩, .slice (some ⟨w.heap.size, 0, none⟩) 1 1, .string ⟨#[98]⟩, .slice (some ⟨w.heap.size + 1, 0, none⟩) 2 2] 98)).alloc (.cells #[.string ⟨#[97]⟩, .string ⟨#[98]⟩] 9)) fun e w' => ∃ q c, e = .returned (.tuple #[.slice q 1 c, .int .i64 0]) ∧ Rd w' 1 q 1 (encI [0]) ∧ RdP w' (some ⟨w.heap.size + 1 + 1, 0, none⟩) 2 (hsWant w.heap.size) wantL ∧ Ext w w' := by
  obtain ⟨h1, h2, h3⟩ := exWant w
  generalize (((w.alloc (.cells #[.int .i64 0] 3)).alloc (.cells #[.int .i64 0, .int .i64 1] 3)).alloc (.cells #[.string ⟨#[97]⟩, .slice (some ⟨w.heap.size, 0, none⟩) 1 1, .string ⟨#[98]⟩, .slice (some ⟨w.heap.size + 1, 0, none⟩) 2 2] 98)) = X at *
  rw [← h3]
  exact (exAllA X _ _ h1).mono fun e w' ⟨q, c, e1, e2, e3⟩ => ⟨q, c, e1, e2, h1.ext e3, Ext.trans h2 e3⟩
end Go.Proofs.YtkekibnhmfmhmaaGreat
/- What All, Any and Both say, whatever the order of words; what is not looked at bounds what is. No program in sight. -/
namespace Go.Proofs.YtkekibnhmfmhmaaGreat
open Go Go.RowKit
theorem nth0_mem {α : Type} [Inhabited α] {ws : List α} (h : 0 < ws.length) : nth ws 0 ∈ ws := by rw [nth_eq h]; exact List.getElem_mem _
theorem allS_rises (L : List Po) (ws : List ByteArray) : Rises ltI (allS L ws) := putAll_rises stoI _
theorem anyS_rises (L : List Po) (ws : List ByteArray) : Rises ltI (anyS L ws) := putAll_rises stoI _
theorem bothS_rises (a b : List Int) : Rises ltI (bothS a b) := putAll_rises stoI _
theorem allS_iff {L : List Po} {ws : List ByteArray} {x : Int} (h : 0 < ws.length) : x ∈ allS L ws ↔ ∀ u ∈ ws, x ∈ findL L u := by
  unfold allS
  rw [putAll_mem stoI, List.mem_filter, List.all_eq_true]
  constructor
  · rintro ⟨_, h2⟩ u hu; simpa using h2 u hu
  · intro h2; exact ⟨h2 _ (nth0_mem h), fun u hu => by simpa using h2 u hu⟩
theorem anyS_iff {L : List Po} {ws : List ByteArray} {x : Int} : x ∈ anyS L ws ↔ ∃ u ∈ ws, x ∈ findL L u := by
  unfold anyS; rw [putAll_mem stoI, List.mem_flatMap]
theorem bothS_iff {a b : List Int} {x : Int} : x ∈ bothS a b ↔ x ∈ a ∧ x ∈ b := by
  unfold bothS; rw [putAll_mem stoI, List.mem_filter, inB_iff]
theorem allS_same {L : List Po} {ws vs : List ByteArray} (h : 0 < ws.length) (k : 0 < vs.length) (hm : ∀ u, u ∈ ws ↔ u ∈ vs) : allS L ws = allS L vs :=
  rises_uniq stoI _ _ (allS_rises _ _) (allS_rises _ _) fun x => by rw [allS_iff h, allS_iff k]; simp only [hm]
theorem anyS_same {L : List Po} {ws vs : List ByteArray} (hm : ∀ u, u ∈ ws ↔ u ∈ vs) : anyS L ws = anyS L vs :=
  rises_uniq stoI _ _ (anyS_rises _ _) (anyS_rises _ _) fun x => by rw [anyS_iff, anyS_iff]; simp only [hm]
theorem bothS_comm (a b : List Int) : bothS a b = bothS b a :=
  rises_uniq stoI _ _ (bothS_rises _ _) (bothS_rises _ _) fun x => by rw [bothS_iff, bothS_iff, and_comm]
theorem bothS_self {l : List Int} (h : Rises ltI l) : bothS l l = l :=
  rises_uniq stoI _ _ (bothS_rises _ _) h fun x => by rw [bothS_iff, and_self]
theorem risesP_nth {l : List Int} (h : Rises ltI l) {k : Nat} (hk : k + 1 < l.length) : nth l k < nth l (k + 1) := by
  rw [nth_eq (by omega), nth_eq hk]
  have := List.pairwise_iff_getElem.1 h k (k + 1) (by omega) hk (by omega)
  simpa [ltI] using this
theorem bothS_len (a b : List Int) : (bothS a b).length ≤ a.length := Nat.le_trans (putAll_len _ _) (List.length_filter_le _ _)
theorem allS_len {L : List Po} (hok : PoOk L) (ws : List ByteArray) : (allS L ws).length ≤ 1000 := by
  rw [← allK_end (Nat.le_refl _)]; exact allK_len hok ws _
theorem anyS_len {L : List Po} (hok : PoOk L) (ws : List ByteArray) : (anyS L ws).length ≤ 1000 * ws.length := Nat.le_trans (putAll_len _ _) (flat_len hok ws)
theorem bigP_facts {L : List Po} (h : bigP L = false) : L.length ≤ 40 ∧ ∀ p ∈ L, p.1.size ≤ 60 ∧ p.2.length ≤ 60 := by
  unfold bigP at h
  rw [Bool.or_eq_false_iff, Bool.and_eq_false_iff] at h
  have h1 : L.length ≤ 40 := by simpa using h.2
  refine ⟨h1, fun p hp => ?_⟩
  have h2 : L.any badPo = false := by
    rcases h.1 with h3 | h3
    · simp at h3; omega
    · exact h3
  have := List.any_eq_false.1 h2 p hp
  unfold badPo at this
  simp at this
  exact this
theorem few_facts {ws : List ByteArray} (h : fewB ws = true) : ws.length ≤ 12 ∧ ∀ s ∈ ws, s.size ≤ 60 := by
  unfold fewB at h
  rw [Bool.and_eq_true, List.all_eq_true] at h
  exact ⟨by simpa using h.2, fun s hs => by simpa using h.1 s hs⟩
theorem poOk_of {L : List Po} (h : bigP L = false) (hI : ∀ q ∈ L, ∀ x ∈ q.2, I64 x) : PoOk L := fun p hp => ⟨by have := ((bigP_facts h).2 p hp).2; omega, hI p hp⟩
theorem poSz_of {L : List Po} (h : bigP L = false) : PoSz L := fun p hp => by have := ((bigP_facts h).2 p hp).1; omega
/-- the words turned round, the first one once more -/
theorem back_mem {ws : List ByteArray} (h : 0 < ws.length) (u : ByteArray) : u ∈ ws ↔ u ∈ ws.reverse ++ [nth ws 0] := by
  rw [List.mem_append, List.mem_reverse, List.mem_singleton]
  exact ⟨.inl, fun h1 => h1.elim id fun e => e ▸ nth0_mem h⟩
theorem more_all {L : List Po} {ws : List ByteArray} {u : ByteArray} (h : 0 < ws.length) {x : Int} (hx : x ∈ allS L (ws ++ [u])) : x ∈ allS L ws := by
  rw [allS_iff (by simp)] at hx
  rw [allS_iff h]
  exact fun v hv => hx v (List.mem_append_left _ hv)
theorem more_any {L : List Po} {ws : List ByteArray} {u : ByteArray} {x : Int} (hx : x ∈ anyS L ws) : x ∈ anyS L (ws ++ [u]) := by
  rw [anyS_iff] at hx ⊢
  obtain ⟨v, hv, h⟩ := hx
  exact ⟨v, List.mem_append_left _ hv, h⟩
theorem all_any {L : List Po} {ws : List ByteArray} (h : 0 < ws.length) {x : Int} (hx : x ∈ allS L ws) : x ∈ anyS L ws := by
  rw [allS_iff h] at hx
  rw [anyS_iff]
  exact ⟨_, nth0_mem h, hx _ (nth0_mem h)⟩
theorem nthP_mem {α : Type} [Inhabited α] {l : List α} {k : Nat} (h : k < l.length) : nth l k ∈ l := by rw [nth_eq h]; exact List.getElem_mem _
theorem inB_true {l : List Int} {x : Int} (h : x ∈ l) : inB l x = true := (inB_iff l x).2 h
theorem inB_both {a b : List Int} {x : Int} (h : x ∈ a) : inB b x = inB (bothS a b) x := by
  rw [Bool.eq_iff_iff, inB_iff, inB_iff, bothS_iff]; exact ⟨fun k => ⟨h, k⟩, fun k => k.2⟩
theorem take_succ_rev {α : Type} [Inhabited α] (l : List α) {k : Nat} (h : k < l.length) : l.reverse.take (k + 1) = l.reverse.take k ++ [nth l (l.length - 1 - k)] := by
  rw [take_succ_nth _ k (by simpa using h)]
  congr 2
  rw [nth_eq (by simpa using h), nth_eq (by omega), List.getElem_reverse]
theorem IntsT (p q : Option Addr) (n m c d : Nat) (A : List Int) (w : World) (h1 : Rd w 1 p n (encI A)) (h2 : Rd w 1 q m (encI A)) : Calls Tryz.prog 38 #[.slice p n c, .slice q m d] w fun e w' => e = .returned (.bool true) ∧ Ext w w' :=
  (Ints01 p q n m c d A A w h1 h2).mono fun e w' ⟨h3, h4⟩ => ⟨by rw [h3]; simp, h4⟩
end Go.Proofs.YtkekibnhmfmhmaaGreat
/- The reference's Check of postings. -/
namespace Go.Proofs.YtkekibnhmfmhmaaGreat
open Go Go.RowKit Go.Maps
theorem WordR (s : ByteArray) (w : World) (hs : s.size ≤ 140737488355328) : Calls Tryz.prog 65 #[.string s] w fun e w' => e = .returned (.bool (wordB s)) ∧ Ext w w' :=
  (Word02 s w hs).mono fun _ _ ⟨h, hw⟩ => ⟨h, by subst hw; exact Below.refl _ _⟩
end Go.Proofs.YtkekibnhmfmhmaaGreat
/- The law PostingTells: postings are right, or not, and tell just these places of words. -/
namespace Go.Proofs.YtkekibnhmfmhmaaGreat
open Go Go.RowKit
def allX (L : List Po) (ws : List ByteArray) : List Int := if ws.length = 0 then [] else allS L ws
def anyX (L : List Po) (ws : List ByteArray) : List Int := if ws.length = 0 then [] else anyS L ws
def codeX (ws : List ByteArray) : Int := if ws.length = 0 then 1 else 0
theorem codeX_0 {ws : List ByteArray} (h : ws.length = 0) : codeX ws = 1 := by unfold codeX; rw [if_pos h]
theorem codeX_1 {ws : List ByteArray} (h : 0 < ws.length) : codeX ws = 0 := by unfold codeX; rw [if_neg (by omega)]
theorem allX_0 (L : List Po) {ws : List ByteArray} (h : ws.length = 0) : allX L ws = [] := by unfold allX; rw [if_pos h]
theorem allX_1 (L : List Po) {ws : List ByteArray} (h : 0 < ws.length) : allX L ws = allS L ws := by unfold allX; rw [if_neg (by omega)]
theorem anyX_0 (L : List Po) {ws : List ByteArray} (h : ws.length = 0) : anyX L ws = [] := by unfold anyX; rw [if_pos h]
theorem anyX_1 (L : List Po) {ws : List ByteArray} (h : 0 < ws.length) : anyX L ws = anyS L ws := by unfold anyX; rw [if_neg (by omega)]
theorem allX_len {L : List Po} (hok : PoOk L) (ws : List ByteArray) : (allX L ws).length ≤ 1000 := by
  unfold allX; split
  · simp
  · exact allS_len hok ws
theorem anyX_len {L : List Po} (hok : PoOk L) (ws : List ByteArray) : (anyX L ws).length ≤ 1000 * ws.length := by
  unfold anyX; split
  · simp
  · exact anyS_len hok ws
theorem AllGx (p : Option Addr) (np cp : Nat) (hs : List Hd) (L : List Po) (pr : Option Addr) (nr cr : Nat) (ws : List ByteArray) (w : World) (hL : RdP w p np hs L) (hok : PoOk L) (hR : Rd w 1 pr nr (encS ws)) (hcr : nr ≤ cr) (hn : nr ≤ 100) : Calls Tryz.prog 40 #[.slice p np cp, .slice pr nr cr] w fun e w' => ∃ q c, e = .returned (.tuple #[.slice q (allX L ws).length c, .int .i64 (codeX ws)]) ∧ Sep w w' [.own 3 1 q (allX L ws).length c (encI (allX L ws))] := by
  have l1 := hR.nS
  rcases Nat.eq_zero_or_pos nr with h0 | h0
  · subst h0
    rw [codeX_0 l1.symm, allX_0 L l1.symm]
    exact (AllGn p np cp pr cr w).mono fun e w' ⟨h1, h2⟩ => ⟨none, 0, h1, ((Sep.start w).call h2).nilrow _ _⟩
  · rw [codeX_1 (by omega), allX_1 L (by omega)]
    exact AllG p np cp hs L pr nr cr ws w hL hok hR hcr h0 hn
theorem All05x (p : Option Addr) (np cp : Nat) (hs : List Hd) (L : List Po) (pr : Option Addr) (nr cr : Nat) (ws : List ByteArray) (w : World) (hL : RdP w p np hs L) (hok : PoOk L) (hR : Rd w 1 pr nr (encS ws)) (hn : nr ≤ 100) : Calls Tryz.prog 71 #[.slice p np cp, .slice pr nr cr] w fun e w' => ∃ q c, e = .returned (.tuple #[.slice q (allX L ws).length c, .int .i64 (codeX ws)]) ∧ Sep w w' [.own 3 1 q (allX L ws).length c (encI (allX L ws))] := by
  have l1 := hR.nS
  rcases Nat.eq_zero_or_pos nr with h0 | h0
  · subst h0
    rw [codeX_0 l1.symm, allX_0 L l1.symm]
    exact (All05n p np cp pr cr w).mono fun e w' ⟨h1, h2⟩ => ⟨none, 0, h1, ((Sep.start w).call h2).nilrow _ _⟩
  · rw [codeX_1 (by omega), allX_1 L (by omega)]
    exact All05 p np cp hs L pr nr cr ws w hL hok hR h0 hn
end Go.Proofs.YtkekibnhmfmhmaaGreat
/- The program's hits (chapter 9): Hits. -/
namespace Go.Proofs.YtkekibnhmfmhmaaGreat
open Go Go.RowKit
attribute [local go_sem] Oper.semAt_some
/-- the error: of rows and places first, then of words and radius -/
def nearC (ck : Bool) (O : List Int) (s : Int) (ws : List ByteArray) (rad : Int) : Int := if levC ck O s ≠ 0 then levC ck O s else if ws.length = 0 ∨ rad < 0 then 1 else 0
def nearR (ck : Bool) (O T R V : List Int) (s : Int) (L : List Po) (ws : List ByteArray) (rad : Int) : List (Int × Int) := if nearC ck O s ws rad = 0 then sortN (gatN (levR ck false O T R V s) rad (allX L ws)) else []
theorem allX_rises (L : List Po) (ws : List ByteArray) : Rises ltI (allX L ws) := by
  unfold allX; split
  · exact List.Pairwise.nil
  · exact allS_rises L ws
theorem allX_nodup (L : List Po) (ws : List ByteArray) : (allX L ws).Nodup := (allX_rises L ws).imp fun {a b} h e => by subst e; rw [stoI.irrefl] at h; cases h
set_option maxRecDepth 100000 in
set_option maxHeartbeats 8000000 in
theorem NHitsG (po : Option Addr) (no co : Nat) (O : List Int) (pt : Option Addr) (nt ct : Nat) (T : List Int) (pr : Option Addr) (nr cr : Nat) (R : List Int) (pv : Option Addr) (nv cv : Nat) (V : List Int) (pp : Option Addr) (np cp : Nat) (hs : List Hd) (L : List Po) (pw : Option Addr) (nw cw : Nat) (ws : List ByteArray) (s rad : Int) (w : World) (hO : Rd w 1 po no (encI O)) (hT : Rd w 1 pt nt (encI T)) (hR : Rd w 1 pr nr (encI R)) (hV : Rd w 1 pv nv (encI V)) (hct : nt ≤ ct) (hcv : nv ≤ cv) (hL : RdP w pp np hs L) (hok : PoOk L) (hW : Rd w 1 pw nw (encS ws)) (hcw : nw ≤ cw) (hnw : nw ≤ 100) :
    Calls Tryz.prog 29 #[.agg #[.slice po no co, .slice pt nt ct, .slice pr nr cr, .slice pv nv cv], .slice pp np cp, .int .i64 s, .slice pw nw cw, .int .i64 rad] w fun e w' => ∃ q c, e = .returned (.tuple #[.slice q (nearR (checkR O T R V) O T R V s L ws rad).length c, .int .i64 (nearC (checkR O T R V) O s ws rad)]) ∧ Sep w w' [.own 61 2 q (nearR (checkR O T R V) O T R V s L ws rad).length c (encE (nearR (checkR O T R V) O T R V s L ws rad))] := by
  have HLev := Lib.hid (fun W (h : Ext w W) => LevelsG po no co O pt nt ct T pr nr cr R pv nv cv V s false W (hO.ext h) (hT.ext h) (hR.ext h) (hV.ext h) hct hcv)
  have HAll := Lib.hid (fun W (h : Ext w W) => AllGx pp np cp hs L pw nw cw ws W (hL.ext h) hok (hW.ext h) hcw hnw)
  have S0 := Lib.hid ((Sep.start w).al #[.slice po no co, .slice pt nt ct, .slice pr nr cr, .slice pv nv cv] 41 w.heap.size rfl)
  have hwl := hW.nS
  have HPL := Lib.hid (allX_len hok ws)
  have HND := Lib.hid (fun d => gatN_nodup (d := d) (rad := rad) (allX_nodup L ws))
  have hlr : (levR (checkR O T R V) false O T R V s).length ≤ 9000000000 := by
    unfold levR
    split
    · rename_i h
      have hck : checkR O T R V = true := by
        cases h2 : checkR O T R V with
        | true => rfl
        | false => rw [h2] at h; simp [levC] at h
      have r := offB_parts (halfB_off (checkR_half hck).2.2.1)
      simp; omega
    · simp
  have HLR := Lib.hid hlr
  have hcx : ∀ c, levC (checkR O T R V) O s = c → nearC (checkR O T R V) O s ws rad = if c ≠ 0 then c else if ws.length = 0 ∨ rad < 0 then 1 else 0 := fun c h => by unfold nearC; rw [h]
  have hrx : nearR (checkR O T R V) O T R V s L ws rad = if nearC (checkR O T R V) O s ws rad = 0 then sortN (gatN (levR (checkR O T R V) false O T R V s) rad (allX L ws)) else [] := rfl
  clear hO hT hR hV hct hcv hL hok hW hcw hnw hlr
  obtain ⟨lc, hlc⟩ : ∃ lc, levC (checkR O T R V) O s = lc := ⟨_, rfl⟩
  have hcx2 := hcx lc hlc
  rw [hlc] at HLev
  clear hcx hlc
  generalize nearC (checkR O T R V) O s ws rad = nc at *
  generalize nearR (checkR O T R V) O T R V s L ws rad = nr' at *
  generalize levR (checkR O T R V) false O T R V s = d at *
  obtain ⟨cx, hcw2⟩ : ∃ cx, codeX ws = cx := ⟨_, rfl⟩
  have hcw3 : cx = if ws.length = 0 then 1 else 0 := by rw [← hcw2]; rfl
  rw [hcw2] at HAll
  clear hcw2 hwl
  generalize allX L ws = P at *
  by_cases h1 : lc = 0
  · rw [if_neg (by simpa using h1)] at hcx2
    have e1 : (lc != 0) = false := by simpa using h1
    by_cases h2 : ws.length = 0
    · rw [if_pos h2] at hcw3
      rw [if_pos (.inl h2)] at hcx2
      rw [hcx2, if_neg (by decide)] at hrx
      subst hcw3 hcx2 hrx
      clear h1 h2
      go_enter Tryz.func29, Tryz.ntmps29
      go_wp2_with (first | (go_at_call 40; have _t := S1; go_must (refine (HAll.out _ S1.out.ext).mono ?_; rintro e w2 ⟨q2, c2, rfl, Z⟩; have S2 := Lib.hid (S1.out.comp Z); clear Z)) | (go_at_call 67; go_must (refine (HLev.out _ S0.out.ext).mono ?_; rintro e w1 ⟨q1, c1, rfl, Z⟩; have S1 := Lib.hid (S0.out.comp Z); clear Z)))
      go_ret2
      exact ⟨none, 0, rfl, ((Sep.start w).call S2.out.ext).nilrow _ _⟩
    · rw [if_neg h2] at hcw3
      by_cases h3 : rad < 0
      · have e3 : decide (rad < 0) = true := by simpa using h3
        rw [if_pos (.inr h3)] at hcx2
        rw [hcx2, if_neg (by decide)] at hrx
        subst hcw3 hcx2 hrx
        clear h1 h2 h3
        go_enter Tryz.func29, Tryz.ntmps29
        go_wp2_with (first | (go_at_call 40; have _t := S1; go_must (refine (HAll.out _ S1.out.ext).mono ?_; rintro e w2 ⟨q2, c2, rfl, Z⟩; have S2 := Lib.hid (S1.out.comp Z); clear Z)) | (go_at_call 67; go_must (refine (HLev.out _ S0.out.ext).mono ?_; rintro e w1 ⟨q1, c1, rfl, Z⟩; have S1 := Lib.hid (S0.out.comp Z); clear Z)))
        go_ret2
        exact ⟨none, 0, rfl, ((Sep.start w).call S2.out.ext).nilrow _ _⟩
      · have e3 : decide (rad < 0) = false := by simpa using h3
        rw [if_neg (by rintro (h | h); · exact h2 h
                       · exact h3 h)] at hcx2
        rw [hcx2, if_pos rfl] at hrx
        subst hcw3 hcx2 hrx
        clear h1 h2 h3
        go_enter Tryz.func29, Tryz.ntmps29
        go_wp2_with (first | (go_at_call 40; have _t := S1; go_must (refine (HAll.out _ S1.out.ext).mono ?_; rintro e w2 ⟨q2, c2, rfl, Z⟩; have S2 := Lib.hid (S1.out.comp Z); clear Z)) | (go_at_call 67; go_must (refine (HLev.out _ S0.out.ext).mono ?_; rintro e w1 ⟨q1, c1, rfl, Z⟩; have S1 := Lib.hid (S0.out.comp Z); clear Z)))
        have S3 := Lib.hid (((S2.out.alrw #[] 61 2 0 w2.heap.size rfl (by decide) rfl).al #[.slice (some ⟨w2.heap.size, 0, none⟩) 0 0] 101 (w2.heap.size + 1) (by simp)).pick [1, 0, 2, 3] (by decide) rfl)
        generalize (w2.alloc (.cells #[] 61)).alloc (.cells #[.slice (some ⟨w2.heap.size, 0, none⟩) 0 0] 101) = w3 at *
        generalize hq0 : (some ⟨w2.heap.size, 0, none⟩ : Option Addr) = q0 at *
        generalize hgb : w2.heap.size + 1 = gb at *
        clear hq0 hgb S0 S1 S2 HLev HAll
        go_loopw [17, 43] (fun _ i wr => ∃ (k m : Nat) (q : Option Addr) (c : Nat) (X : List (Int × Int)), k ≤ P.length ∧ i = .int .i64 k ∧ X.Perm (gatN d rad (P.take k)) ∧ HeapN ltN m X ∧ Sep w wr [.own 61 2 q m c (encE X), .blk gb 101 #[.slice q m c], .own 3 1 q2 P.length c2 (encI P), .own 3 1 q1 d.length c1 (encI d)]) (fun _ i _ => P.length - (intOf i).toNat)
        case atStart => exact ⟨0, 0, q0, 0, [], Nat.zero_le _, rfl, by simp [gatN], fun i h0 h1 => by omega, S3.out⟩
        case round =>
          clear S3
          obtain ⟨k, m, q, c, X, hk, rfl, hp, hh, S⟩ := hrel
          have hmX := (S.rdx 0 rfl).nE
          have hgl := gatN_len d rad (P.take k)
          have hpl := hp.length_eq
          have hm1 : m ≤ 1000 := by rw [List.length_take] at hgl; have := HPL.out; omega
          have pP := (S.rd 2 rfl (by have := HPL.out; omega)).ptr
          clear hgl hpl hmX
          have hP1 := HPL.out
          by_cases hlt : k < P.length
          · have d1 : (0:Int) ≤ k := by omega
            have d2 : (k:Int) < P.length := by omega
            have g1 := (S.rd 2 rfl (by have := HPL.out; omega)).cI hlt
            have HST := Lib.hid (gatN_take d rad hlt)
            have HGI := Lib.hid (goodN_iff (d := d) (rad := rad) (v := nth P k))
            have RD := Lib.hid (S.rd 3 rfl (by have := HLR.out; omega))
            have pD := RD.out.ptr
            generalize nth P k = v at *
            generalize gatN d rad (P.take k) = G at *
            have HP := Lib.hid hp
            have HH := Lib.hid hh
            clear hp hh
            by_cases a1 : 0 ≤ v
            · have k1 : decide (0 ≤ v) = true := by simpa using a1
              by_cases a2 : v < d.length
              · have k2 : decide (v < d.length) = true := by simpa using a2
                obtain ⟨u, rfl⟩ : ∃ u : Nat, v = u := ⟨v.toNat, by omega⟩
                have g2 := RD.out.cI (k := u) (by omega)
                rw [Int.toNat_natCast] at HGI
                have HX : Hid (hitN d (u:Int) = ((u:Int), nth d u)) := by unfold Hid hitN; rw [Int.toNat_natCast]
                generalize nth d u = x at *
                have k2n : decide (u < d.length) = true := by simp; omega
                by_cases a3 : 0 ≤ x
                · have k3 : decide (0 ≤ x) = true := by simpa using a3
                  by_cases a4 : x ≤ rad
                  · have k4 : decide (x ≤ rad) = true := by simpa using a4
                    have hg : goodN d rad (u:Int) = true := HGI.out.2 ⟨a1, a2, a3, a4⟩
                    rw [if_pos hg, HX.out] at HST
                    have HPU := Lib.hid (nHeapPush gb q m c X ((u:Int), x) wr w _ 1 0 S rfl rfl (by decide) (by omega) HH.out)
                    unfold nhpV nplV at HPU
                    have SH := Lib.hid S; clear S
                    clear a3 a4 hg HGI HX RD
                    go_wp2_with (go_at_call 68; go_must (refine HPU.out.mono ?_; rintro e w5 ⟨rfl, q', c', X', k1, k2, T⟩; have K1 := Lib.hid k1; have K2 := Lib.hid k2; have S5 := Lib.hid T; clear k1 k2 T))
                    go_roundw
                    case rel => exact ⟨k + 1, m + 1, q', c', X', by omega, by go_num, by rw [HST.out]; exact K1.out.trans (HP.out.append_right _), K2.out, S5.out⟩
                    case measure => simp [intOf]; omega
                  · have k4 : decide (x ≤ rad) = false := by simpa using a4
                    rw [if_neg fun h => a4 (HGI.out.1 h).2.2.2] at HST
                    have SH := Lib.hid S; clear S
                    clear a3 a4 HGI HX RD
                    go_wp2
                    go_roundw
                    case rel => exact ⟨k + 1, m, q, c, X, by omega, by go_num, by rw [HST.out]; exact HP.out, HH.out, SH.out⟩
                    case measure => simp [intOf]; omega
                · have k3 : decide (0 ≤ x) = false := by simpa using a3
                  rw [if_neg fun h => a3 (HGI.out.1 h).2.2.1] at HST
                  have SH := Lib.hid S; clear S
                  clear a3 HGI HX RD
                  go_wp2
                  go_roundw
                  case rel => exact ⟨k + 1, m, q, c, X, by omega, by go_num, by rw [HST.out]; exact HP.out, HH.out, SH.out⟩
                  case measure => simp [intOf]; omega
              · have k2 : decide (v < d.length) = false := by simpa using a2
                rw [if_neg fun h => a2 (HGI.out.1 h).2.1] at HST
                have SH := Lib.hid S; clear S
                clear a2 HGI RD
                go_wp2
                go_roundw
                case rel => exact ⟨k + 1, m, q, c, X, by omega, by go_num, by rw [HST.out]; exact HP.out, HH.out, SH.out⟩
                case measure => simp [intOf]; omega
            · have k1 : decide (0 ≤ v) = false := by simpa using a1
              rw [if_neg fun h => a1 (HGI.out.1 h).1] at HST
              have SH := Lib.hid S; clear S
              clear a1 HGI RD
              go_wp2
              go_roundw
              case rel => exact ⟨k + 1, m, q, c, X, by omega, by go_num, by rw [HST.out]; exact HP.out, HH.out, SH.out⟩
              case measure => simp [intOf]; omega
          · have hkP : k = P.length := by omega
            rw [List.take_of_length_le (by omega)] at hp
            have hnX : X.Nodup := hp.nodup_iff.2 (HND.out d)
            have HE := Lib.hid (sortN_uniq (HND.out d) (sortN_rises X hnX) ((sortN_perm X).trans hp))
            have HGA := Lib.hid (NGath gb q m c X wr w (S.pick [0, 1] (by decide) rfl) (by omega) hh hnX)
            rw [HE.out] at HGA
            unfold nhpV at HGA
            have d2 : decide ((k:Int) < P.length) = false := by simp; omega
            have d2n : decide (k < P.length) = false := by simp; omega
            have SH := Lib.hid S; clear S
            clear hp hh hnX hkP hlt
            go_wp2_with (go_at_call 69; go_must (refine HGA.out.mono ?_; rintro e w5 ⟨ql, cl, rfl, T⟩; have S5 := Lib.hid T; clear T))
            go_ret2
            exact ⟨ql, cl, rfl, S5.out⟩
  · rw [if_pos h1] at hcx2
    have e1 : (lc != 0) = true := by simpa using h1
    rw [hcx2, if_neg h1] at hrx
    subst hcx2 hrx
    clear h1
    go_enter Tryz.func29, Tryz.ntmps29
    go_wp2_with (first | (go_at_call 40; have _t := S1; go_must (refine (HAll.out _ S1.out.ext).mono ?_; rintro e w2 ⟨q2, c2, rfl, Z⟩; have S2 := Lib.hid (S1.out.comp Z); clear Z)) | (go_at_call 67; go_must (refine (HLev.out _ S0.out.ext).mono ?_; rintro e w1 ⟨q1, c1, rfl, Z⟩; have S1 := Lib.hid (S0.out.comp Z); clear Z)))
    go_ret2
    exact ⟨none, 0, rfl, ((Sep.start w).call S1.out.ext).nilrow _ _⟩
end Go.Proofs.YtkekibnhmfmhmaaGreat
/- The document's hits (chapter 9, reference): Ahead, put. -/
namespace Go.Proofs.YtkekibnhmfmhmaaGreat
open Go Go.RowKit
set_option maxRecDepth 100000 in
set_option maxHeartbeats 4000000 in
theorem Ahead09 (a b : Int × Int) (w : World) : Calls Tryz.prog 43 #[.agg #[.int .i64 a.1, .int .i64 a.2], .agg #[.int .i64 b.1, .int .i64 b.2]] w fun e w' => e = .returned (.bool (ltN a b)) ∧ Ext w w' := by
  have S0 := Lib.hid (((Sep.start w).al #[.int .i64 a.1, .int .i64 a.2] 61 w.heap.size rfl).al #[.int .i64 b.1, .int .i64 b.2] 61 (w.heap.size + 1) (by simp))
  obtain ⟨a1, a2⟩ := a
  obtain ⟨b1, b2⟩ := b
  unfold ltN
  simp only at *
  by_cases h1 : a2 < b2
  · have e1 : decide (a2 < b2) = true := by simpa using h1
    rw [e1, Bool.true_or]
    clear h1
    go_enter Tryz.func43, Tryz.ntmps43
    go_wp2
    go_ret
    exact ⟨rfl, S0.out.ext⟩
  · have e1 : decide (a2 < b2) = false := by simpa using h1
    rw [e1, Bool.false_or]
    by_cases h2 : a2 = b2
    · have e2 : (a2 == b2) = true := by simpa using h2
      rw [decide_eq_true h2, Bool.true_and]
      clear h1 h2
      go_enter Tryz.func43, Tryz.ntmps43
      go_wp2
      go_ret
      exact ⟨rfl, S0.out.ext⟩
    · have e2 : (a2 == b2) = false := by simpa using h2
      rw [decide_eq_false h2, Bool.false_and]
      clear h1 h2
      go_enter Tryz.func43, Tryz.ntmps43
      go_wp2
      go_ret
      exact ⟨rfl, S0.out.ext⟩
theorem rd_takeE {w : World} {q : Option Addr} {n d : Nat} {L : List (Int × Int)} (h : Rd w 2 q n (encE L)) (hd : d ≤ n) : Rd w 2 q d (encE (L.take d)) := by
  have := h.take (k := d) hd
  rwa [encE_take] at this
theorem rd_cutE {w : World} {q : Option Addr} {n d c : Nat} {L : List (Int × Int)} (h : Rd w 2 q n (encE L)) (hd : d ≤ n) (hc : n ≤ c) : Rd w 2 (cutp q c d 2) (n - d) (encE (L.drop d)) := by
  have hl := h.nE
  have := h.cut (l := d) (h := n) (c := c) hd (Nat.le_refl _) hc
  rw [encE_drop, encE_take, List.take_of_length_le (by rw [List.length_drop]; omega)] at this
  exact this
set_option maxRecDepth 100000 in
set_option maxHeartbeats 8000000 in
theorem Put09 (p : Option Addr) (n c : Nat) (l : List (Int × Int)) (x : Int × Int) (w : World) (hl : Rd w 2 p n (encE l)) (hc : n ≤ c) (hn : n ≤ 100000) :
    Calls Tryz.prog 72 #[.slice p n c, .agg #[.int .i64 x.1, .int .i64 x.2]] w fun e w' => ∃ q c', e = .returned (.slice q (putN x l).length c') ∧ Sep w w' [.own 61 2 q (putN x l).length c' (encE (putN x l))] := by
  obtain ⟨i0, hi0, hz0, hz1, hz2⟩ := info_parts infNr
  have S0 := Lib.hid ((Sep.start w).al #[.int .i64 x.1, .int .i64 x.2] 61 w.heap.size rfl)
  have hln := hl.nE
  have LL := Lib.hid hln
  have p1 := hl.ptr
  have HL := Lib.hid hl
  have HA := fun (b : Int × Int) W => Ahead09 x b W
  obtain ⟨x1, x2⟩ := x
  simp only at S0 HA ⊢
  clear hl hln
  go_enter Tryz.func72, Tryz.ntmps72
  go_wp2
  go_loopw [5] (fun i wr => ∃ k : Nat, k ≤ n ∧ i = .int .i64 k ∧ Hid (∀ i, i < k → ltN (x1, x2) (nth l i) = false) ∧ Sep w wr [.blk w.heap.size 61 #[.int .i64 x1, .int .i64 x2]]) (fun i _ => n - (intOf i).toNat)
  case atStart => exact ⟨0, Nat.zero_le _, rfl, fun i hi => by omega, S0.out⟩
  case round =>
    clear S0
    obtain ⟨k, hk, rfl, HK, S⟩ := hrel
    have b0 := (S.blk 0 rfl).cell 0
    have b1 := (S.blk 0 rfl).cell 1
    have bz := (S.blk 0 rfl).lt
    by_cases hlt : k < n
    · have hkL : k < l.length := by rw [← LL.out]; exact hlt
      have g1 := S.ext.cell (HL.out.cE hlt)
      have g2 := S.ext.cell (HL.out.cE2 hlt)
      have d1 : (0:Int) ≤ k := by omega
      have d2 : (k:Int) < n := by omega
      have HAT : Hid (ltN (x1, x2) (nth l k) = true → k = atN (x1, x2) l) := fun h => atN_eq (by omega) HK.out fun _ => h
      have HAK : Hid (ltN (x1, x2) (nth l k) = false → ∀ i, i < k + 1 → ltN (x1, x2) (nth l i) = false) := fun h i hi => by
        by_cases e : i = k
        · subst e; exact h
        · exact HK.out i (by omega)
      have HAx := Lib.hid (fun y : ExtOf wr => HA (nth l k) y.val)
      generalize nth l k = y at *
      cases hy : ltN (x1, x2) y with
      | false =>
        rw [hy] at HAx
        have HK2 := Lib.hid (HAK.out hy)
        clear hy HAT HAK HK
        have SH := Lib.hid S; clear S
        go_wp2
        have u0 := fun x : ExtOf wr => x.ext.cell b0
        have u1 := fun x : ExtOf wr => x.ext.cell b1
        have u2 := fun x : ExtOf wr => x.ext.cell g1
        have u3 := fun x : ExtOf wr => x.ext.cell g2
        refine wp_region_ext (by kernel_rfl) (by kernel_rfl) ?_
        repeat (go_big_quiet_step (((go_at_call 43; exact Calls.ext_of (HAx.out _)))))
        refine wpQuiet_nil ?_
        rintro w9 ⟨⟨_, hb9⟩, rfl⟩
        go_wp2
        go_roundw
        case rel => exact ⟨k + 1, by omega, by go_num, HK2.out, SH.out.call hb9⟩
        case measure => simp [intOf]; omega
      | true =>
        rw [hy] at HAx
        have HE := Lib.hid (HAT.out hy)
        clear hy HAT HAK HK
        have SH := Lib.hid S; clear S
        go_wp2
        have u0 := fun x : ExtOf wr => x.ext.cell b0
        have u1 := fun x : ExtOf wr => x.ext.cell b1
        have u2 := fun x : ExtOf wr => x.ext.cell g1
        have u3 := fun x : ExtOf wr => x.ext.cell g2
        refine wp_region_ext (by kernel_rfl) (by kernel_rfl) ?_
        repeat (go_big_quiet_step (((go_at_call 43; exact Calls.ext_of (HAx.out _)))))
        refine wpQuiet_nil ?_
        rintro w9 ⟨⟨_, hb9⟩, rfl⟩
        have S9 := Lib.hid (SH.out.call hb9)
        have HF : Hid (putN (x1, x2) l = l.take k ++ ([(x1, x2)] ++ l.drop k)) := by unfold Hid putN; rw [← HE.out]
        have hkn : (k:Int) ≤ n := by omega
        clear hb9 g1 g2 HAx u0 u1 u2 u3 b0 b1 bz SH
        have b0 := (S9.out.blk 0 rfl).cell 0
        have b1 := (S9.out.blk 0 rfl).cell 1
        have bz := (S9.out.blk 0 rfl).lt
        go_wp2_with (first | (at_builtin; have _t := T2; go_must (refine wpList_append_sep rfl _ _ _ rfl 61 i0 _ 2 16 Tryz.underlying31 hi0 hz0 hz1 hz2 rfl (by omega) T2.out 0 q7 (k + 1) c7 _ rfl rfl _ _ _ (encE (l.drop k)) rfl (by have hz := rd_cutE (d := k) (HL.out.ext T2.out.ext) (by omega) hc; simpa [cutp, Addr.add] using hz) (one_encE _) (by omega) (by omega) ?_; intro q8 c8 w8 S' hsz; have T3 := Lib.hid S'; clear S' hsz)) | (at_builtin; have _t := T1; go_must (refine wpList_append_sep rfl _ _ _ rfl 61 i0 _ 2 16 Tryz.underlying31 hi0 hz0 hz1 hz2 rfl (by omega) (T1.out.junk _) 0 q6 k c6 _ rfl rfl _ 1 1 _ rfl (Rd.one2 _ _ _ _) (one_encE _) (by omega) (by omega) ?_; intro q7 c7 w7 S' hsz; have T2 := Lib.hid S'; clear S' hsz)) | (at_builtin; have _t := S9; go_must (refine wpList_append_sep rfl _ _ _ rfl 61 i0 _ 2 16 Tryz.underlying31 hi0 hz0 hz1 hz2 rfl (by omega) (S9.out.nilrow 61 2) 0 none 0 0 [] rfl rfl p k c _ rfl (rd_takeE (HL.out.ext S9.out.ext) (by omega)) (one_encE _) (by omega) (by omega) ?_; intro q6 c6 w6 S' hsz; (try simp only [Nat.zero_add, List.nil_append] at S'); have T1 := Lib.hid S'; have e0 := (S'.blk 1 rfl).cell 0; have e1 := (S'.blk 1 rfl).cell 1; have ez := (S'.blk 1 rfl).lt; clear S' hsz)))
        go_ret
        have hL2 : k + 1 + (n - k) = (putN (x1, x2) l).length := by (rw [putN_len, ← LL.out]; omega)
        have T : Sep w w8 [.own 61 2 q8 (k + 1 + (n - k)) c8 (encE (l.take k) ++ encE [(x1, x2)] ++ encE (l.drop k))] := T3.out.pick [0] (by decide) rfl
        rw [List.append_assoc, ← encE_append, ← encE_append, hL2, ← HF.out] at T
        exact ⟨q8, c8, ret_slc hL2, T⟩
    · have hkn' : k = n := by omega
      have HE : Hid (k = atN (x1, x2) l) := atN_eq (by have := LL.out; omega) HK.out fun h => absurd h (by have := LL.out; omega)
      have HF : Hid (putN (x1, x2) l = l.take k ++ ([(x1, x2)] ++ l.drop k)) := by unfold Hid putN; rw [← HE.out]
      have d2 : decide ((k:Int) < n) = false := by simp; omega
      have d2n : decide (k < n) = false := by simp; omega
      have d1 : (0:Int) ≤ k := by omega
      have hkn : (k:Int) ≤ n := by omega
      clear hkn' hlt HK
      have HAx := Lib.hid (fun y : ExtOf wr => HA (0, 0) y.val)
      have SH := Lib.hid S; clear S
      go_wp2
      have u0 := fun x : ExtOf wr => x.ext.cell b0
      have u1 := fun x : ExtOf wr => x.ext.cell b1
      refine wp_region_ext (by kernel_rfl) (by kernel_rfl) ?_
      repeat (go_big_quiet_step (((go_at_call 43; exact Calls.ext_of (HAx.out _)))))
      refine wpQuiet_nil ?_
      rintro w9 ⟨⟨_, hb9⟩, rfl⟩
      have S9 := Lib.hid (SH.out.call hb9)
      clear hb9 HAx u0 u1 b0 b1 bz SH
      have b0 := (S9.out.blk 0 rfl).cell 0
      have b1 := (S9.out.blk 0 rfl).cell 1
      have bz := (S9.out.blk 0 rfl).lt
      go_wp2_with (first | (at_builtin; have _t := T2; go_must (refine wpList_append_sep rfl _ _ _ rfl 61 i0 _ 2 16 Tryz.underlying31 hi0 hz0 hz1 hz2 rfl (by omega) T2.out 0 q7 (k + 1) c7 _ rfl rfl _ _ _ (encE (l.drop k)) rfl (by have hz := rd_cutE (d := k) (HL.out.ext T2.out.ext) (by omega) hc; simpa [cutp, Addr.add] using hz) (one_encE _) (by omega) (by omega) ?_; intro q8 c8 w8 S' hsz; have T3 := Lib.hid S'; clear S' hsz)) | (at_builtin; have _t := T1; go_must (refine wpList_append_sep rfl _ _ _ rfl 61 i0 _ 2 16 Tryz.underlying31 hi0 hz0 hz1 hz2 rfl (by omega) (T1.out.junk _) 0 q6 k c6 _ rfl rfl _ 1 1 _ rfl (Rd.one2 _ _ _ _) (one_encE _) (by omega) (by omega) ?_; intro q7 c7 w7 S' hsz; have T2 := Lib.hid S'; clear S' hsz)) | (at_builtin; have _t := S9; go_must (refine wpList_append_sep rfl _ _ _ rfl 61 i0 _ 2 16 Tryz.underlying31 hi0 hz0 hz1 hz2 rfl (by omega) (S9.out.nilrow 61 2) 0 none 0 0 [] rfl rfl p k c _ rfl (rd_takeE (HL.out.ext S9.out.ext) (by omega)) (one_encE _) (by omega) (by omega) ?_; intro q6 c6 w6 S' hsz; (try simp only [Nat.zero_add, List.nil_append] at S'); have T1 := Lib.hid S'; have e0 := (S'.blk 1 rfl).cell 0; have e1 := (S'.blk 1 rfl).cell 1; have ez := (S'.blk 1 rfl).lt; clear S' hsz)))
      go_ret
      have hL2 : k + 1 + (n - k) = (putN (x1, x2) l).length := by (rw [putN_len, ← LL.out]; omega)
      have T : Sep w w8 [.own 61 2 q8 (k + 1 + (n - k)) c8 (encE (l.take k) ++ encE [(x1, x2)] ++ encE (l.drop k))] := T3.out.pick [0] (by decide) rfl
      rw [List.append_assoc, ← encE_append, ← encE_append, hL2, ← HF.out] at T
      exact ⟨q8, c8, ret_slc hL2, T⟩
end Go.Proofs.YtkekibnhmfmhmaaGreat
/- The reference's rows: in, row. -/
namespace Go.Proofs.YtkekibnhmfmhmaaGreat
open Go Go.RowKit
theorem In04x (p : Option Addr) (n c : Nat) (l : List Int) (x : Int) (w : World) (hl : Rd w 1 p n (encI l)) :
    Calls Tryz.prog 90 #[.slice p n c, .int .i64 x] w fun e w' => e = .returned (.bool (inB l x)) ∧ Ext w w' := by
  have p1 := hl.ptr
  have n1 := hl.small
  have L1 := Lib.hid hl.nI
  have HL := Lib.hid hl; clear hl
  go_enter Tryz.func90, Tryz.ntmps90
  go_wp2
  go_loop [5] (fun i => ∃ k : Nat, k ≤ n ∧ i = .int .i64 k ∧ (l.take k).any (fun y => y == x) = false) (fun i => n - (intOf i).toNat)
  case atStart => exact ⟨0, Nat.zero_le _, rfl, rfl⟩
  case round =>
    obtain ⟨k, hk, rfl, ha⟩ := hrel
    have HA := Lib.hid ha; clear ha
    by_cases hlt : k < n
    · have g1 := HL.out.cI hlt
      have d1 : (0:Int) ≤ k := by omega
      have d2 : (k:Int) < n := by omega
      have hkL : k < l.length := by rw [← L1.out]; exact hlt
      cases hq : (nth l k == x) with
      | true =>
        have HF : Hid (inB l x = true) := any_true_at (fun y : Int => y == x) l k hkL hq
        go_wp2
        go_ret
        exact ⟨ret_bool HF.out.symm, Below.refl _ _⟩
      | false =>
        have HF := Lib.hid (any_step (fun y : Int => y == x) l k hkL HA.out hq)
        go_wp2
        go_round
        case rel => exact ⟨k + 1, by omega, by go_num, HF.out⟩
        case measure => simp [intOf]; omega
    · have HF : Hid (inB l x = false) := any_end (fun y : Int => y == x) l k (by rw [← L1.out]; exact hlt) HA.out
      go_wp2
      go_ret
      exact ⟨ret_bool HF.out.symm, Below.refl _ _⟩
set_option maxRecDepth 100000 in
set_option maxHeartbeats 2000000 in
theorem row04 (po : Option Addr) (no co : Nat) (O : List Int) (pt : Option Addr) (nt ct : Nat) (T : List Int) (k : Nat) (w : World) (hO : Rd w 1 po no (encI O)) (hT : Rd w 1 pt nt (encI T)) (hct : nt ≤ ct) (hok : OffOk O T) (hk1 : k + 1 < O.length) (hlen : T.length ≤ 100000) :
    Calls Tryz.prog 89 #[.slice po no co, .slice pt nt ct, .int .i64 k] w fun e w' => ∃ q c, e = .returned (.slice q (rowL O T k).length c) ∧ Sep w w' [.own 3 1 q (rowL O T k).length c (encI (rowL O T k))] := by
  have na1 := hO.small
  have l1 := hO.nI
  have l2 := hT.nI
  have pA := hO.ptr
  have q1 := hok.lo k (by omega)
  have q2 := hok.le k hk1
  have q3 := hok.hi (k + 1) hk1
  have hrl := rowL_len hok hk1
  have RL0 := hT.rowOf hok hct hk1
  have g1 := hO.cI (k := k) (by omega)
  have g2 := hO.cI (k := k + 1) (by omega)
  obtain ⟨a, ha⟩ : ∃ a : Nat, nth O k = (a : Int) := ⟨(nth O k).toNat, by omega⟩
  obtain ⟨c, hc⟩ : ∃ c : Nat, nth O (k + 1) = (c : Int) := ⟨(nth O (k + 1)).toNat, by omega⟩
  rw [ha] at q1 q2 hrl RL0 g1
  rw [hc] at q2 q3 hrl RL0 g2
  simp only [Int.toNat_natCast] at hrl RL0
  have hq3 : (c:Int) ≤ ct := by omega
  have HLEN : Hid (c - a ≤ 1000000) := by unfold Hid; omega
  have d1 : (0:Int) ≤ k := by omega
  have d2 : (k:Int) < no := by omega
  have d3 : (0:Int) ≤ (k:Int) + 1 := by omega
  have d4 : (k:Int) + 1 < no := by omega
  have HRL := Lib.hid hrl
  have RL := Lib.hid RL0
  clear hO hT hok ha hc hrl RL0 hlen l1 l2 q3 hk1
  rw [HRL.out]
  go_enter Tryz.func89, Tryz.ntmps89
  go_wp2
  have x1 := fun x : ExtOf w => x.ext.cell g1
  have x2 := fun x : ExtOf w => x.ext.cell g2
  refine wp_region_mix [true, true, true, true, true, true, true, true, true, true, true, false] (fun _ u W => ∃ q d, u = .slice q (c - a) d ∧ W.ownsRow w.heap.size 3 1 (.slice q (c - a) d) (c - a) (encI (rowL O T k))) (by kernel_rfl) (by kernel_rfl) (by kernel_rfl) (fun _ _ _ _ hE ⟨p, d, h1, h2⟩ => ⟨p, d, h1, hE.own h2⟩) ?_
  simp only [nfM]
  repeat (go_big_quiet_step ((fail)))
  refine wpQuiet_nil ⟨⟨fun vs W hE hd => ?_, trivial⟩, fun vs W hE hkn => ?_⟩
  · simp [putM, go_sem]
    exact (OwnI01 _ (c - a) _ (rowL O T k) W (RL.out.ext hE) HLEN.out).mono fun e w' ⟨q, d, h1, S⟩ => ⟨_, h1, ⟨q, d, rfl, own_base (S.own 0 rfl) hE.size⟩, S.ext⟩
  · obtain ⟨⟨q, d, hv, hown⟩, _⟩ := hkn
    have S5 := Lib.hid ((Sep.start w).fresh hE hown (Nat.le_refl _))
    simp only [putM, hv, List.length_cons, List.length_nil, Nat.zero_add, Nat.reduceAdd, List.drop_succ_cons, List.drop_zero]
    clear x1 x2 g1 g2 hv hown hE
    go_wp2
    go_ret
    exact ⟨q, d, rfl, S5.out⟩
end Go.Proofs.YtkekibnhmfmhmaaGreat
/- The reference's half: offsets and numbers that are right by themselves. -/
namespace Go.Proofs.YtkekibnhmfmhmaaGreat
open Go Go.RowKit
theorem halfB_no1 {O T : List Int} (h : ¬ (2 ≤ O.length ∧ O.length ≤ 201 ∧ T.length ≤ 2000 ∧ nth O 0 = 0 ∧ nth O (O.length - 1) = T.length ∧ sortB O = true)) : halfB O T = false := by
  cases h1 : halfB O T with
  | false => rfl
  | true => exact absurd (offB_parts (by unfold halfB at h1; rw [Bool.and_eq_true] at h1; exact h1.1)) h
theorem halfB_no2 {O T : List Int} {v : Nat} (hv : v < O.length - 1) (h : okRow ((O.length - 1 : Nat) : Int) (rowL O T v) = false) : halfB O T = false := by
  unfold halfB
  rw [range_all_no _ _ v hv h, Bool.and_false]
set_option maxRecDepth 100000 in
set_option maxHeartbeats 8000000 in
theorem half04 (po : Option Addr) (no co : Nat) (O : List Int) (pt : Option Addr) (nt ct : Nat) (T : List Int) (w : World) (hO : Rd w 1 po no (encI O)) (hT : Rd w 1 pt nt (encI T)) : Calls Tryz.prog 88 #[.slice po no co, .slice pt nt ct] w fun e w' => e = .returned (.bool (halfB O T)) ∧ Ext w w' := by
  have pO := hO.ptr
  have pT := hT.ptr
  have n1 := hO.small
  have n2 := hT.small
  have l1 := Lib.hid hO.nI
  have l2 := Lib.hid hT.nI
  have HNO := Lib.hid (fun h => halfB_no1 (O := O) (T := T) h)
  by_cases h1 : no < 2
  · have d1 : decide ((no:Int) < 2) = true := by simp; omega
    have HF : Hid (halfB O T = false) := HNO.out (by rw [← l1.out]; omega)
    clear hO hT
    go_enter Tryz.func88, Tryz.ntmps88
    go_wp2
    go_ret
    exact ⟨ret_bool HF.out.symm, Below.refl _ _⟩
  · have d1 : decide ((no:Int) < 2) = false := by simp; omega
    by_cases h2 : 201 < no
    · have d2 : decide ((201:Int) < no) = true := by simp; omega
      have HF : Hid (halfB O T = false) := HNO.out (by rw [← l1.out]; omega)
      clear hO hT
      go_enter Tryz.func88, Tryz.ntmps88
      go_wp2
      go_ret
      exact ⟨ret_bool HF.out.symm, Below.refl _ _⟩
    · have d2 : decide ((201:Int) < no) = false := by simp; omega
      have g0 := hO.cI (k := 0) (by omega)
      have q1 : (0:Int) < no := by omega
      have g5 := hO.cI (k := no - 1) (by omega)
      have q2 : (0:Int) ≤ (no:Int) - 1 := by omega
      have q2b : (1:Int) ≤ (no:Int) := by omega
      have q3 : (no:Int) - 1 < no := by omega
      by_cases h4 : nth O 0 = 0
      · have d4 : (nth O 0 != 0) = false := by simpa using h4
        by_cases h5 : nth O (no - 1) = nt
        · have d5 : (nth O (no - 1) != (nt:Int)) = false := by simpa using h5
          by_cases h3 : 2000 < nt
          · have d3 : decide ((2000:Int) < nt) = true := by simp; omega
            have HF : Hid (halfB O T = false) := HNO.out (by rw [← l2.out]; omega)
            clear hO hT
            go_enter Tryz.func88, Tryz.ntmps88
            go_wp2
            go_ret
            exact ⟨ret_bool HF.out.symm, Below.refl _ _⟩
          · have d3 : decide ((2000:Int) < nt) = false := by simp; omega
            have HOFF : Hid (sortB O = true → offB O T = true) := fun h6 => by
              unfold offB
              rw [h6, h4]
              rw [← l1.out, ← l2.out, h5]
              simp; omega
            have HO := Lib.hid hO; clear hO
            have HT := Lib.hid hT; clear hT
            have h4' := Lib.hid h4
            have h5' := Lib.hid h5
            clear h4 h5
            go_enter Tryz.func88, Tryz.ntmps88
            go_wp2
            go_loopw [5] (fun i wr => ∃ v : Nat, 1 ≤ v ∧ v ≤ no ∧ i = .int .i64 v ∧ (∀ u, u + 1 < v → nth O u ≤ nth O (u + 1)) ∧ Ext w wr) (fun i _ => no - (intOf i).toNat)
            case atStart => exact ⟨1, Nat.le_refl _, by omega, rfl, fun u hu => by omega, Below.refl _ _⟩
            case round =>
              obtain ⟨v, hv1, hv, rfl, ha, hE⟩ := hrel
              have HA := Lib.hid ha; clear ha
              by_cases hlt : v < no
              · have c1 := hE.cell (HO.out.cI hlt)
                have c0 := hE.cell (HO.out.cI (k := v - 1) (by omega))
                have e1 : (0:Int) ≤ v := by omega
                have e2 : (v:Int) < no := by omega
                have e3 : (1:Int) ≤ (v:Int) := by omega
                have e4 : (v:Int) - 1 < no := by omega
                have e5 : (0:Int) ≤ (v:Int) - 1 := by omega
                have HE := Lib.hid hE; clear hE
                by_cases hs : nth O v < nth O (v - 1)
                · have b1 : decide (nth O v < nth O (v - 1)) = true := by simpa using hs
                  have HF : Hid (halfB O T = false) := HNO.out (fun h => by
                    have := sortB_at h.2.2.2.2.2 (v := v - 1) (by rw [← l1.out]; omega)
                    rw [show v - 1 + 1 = v by omega] at this; omega)
                  go_wp2
                  have x1 := fun x : ExtOf wr => x.ext.cell c1
                  have x0 := fun x : ExtOf wr => x.ext.cell c0
                  refine wp_region_ext (by kernel_rfl) (by kernel_rfl) ?_
                  repeat (go_big_quiet_step ((fail)))
                  refine wpQuiet_nil ?_
                  rintro w1 ⟨⟨_, hb1⟩, rfl⟩
                  go_wp2
                  go_ret
                  exact ⟨ret_bool HF.out.symm, Ext.trans HE.out hb1⟩
                · have b1 : decide (nth O v < nth O (v - 1)) = false := by simpa using hs
                  go_wp2
                  have x1 := fun x : ExtOf wr => x.ext.cell c1
                  have x0 := fun x : ExtOf wr => x.ext.cell c0
                  refine wp_region_ext (by kernel_rfl) (by kernel_rfl) ?_
                  repeat (go_big_quiet_step ((fail)))
                  refine wpQuiet_nil ?_
                  rintro w1 ⟨⟨_, hb1⟩, rfl⟩
                  go_wp2
                  go_roundw
                  case rel => exact ⟨v + 1, by omega, by omega, by go_num, fun u hu => by
                    by_cases h : u + 1 = v
                    · have : v - 1 = u := by omega
                      rw [this] at hs; rw [h]; omega
                    · exact HA.out u (by omega), Ext.trans HE.out hb1⟩
                  case measure => simp [intOf]; omega
              · have hso : sortB O = true := by
                  unfold sortB
                  rw [List.all_eq_true]
                  intro u hu
                  rw [List.mem_range] at hu
                  exact decide_eq_true (HA.out u (by have := l1.out; omega))
                have HOF := Lib.hid (HOFF.out hso)
                have HOK := Lib.hid (offOk_of HOF.out)
                clear hso HA
                have HE := Lib.hid hE; clear hE
                go_wp2
                go_loopw [6, 7] (fun i _ wr => ∃ v : Nat, 1 ≤ v ∧ v ≤ no ∧ i = .int .i64 v ∧ (∀ u, u + 1 < v → okRow ((O.length - 1 : Nat) : Int) (rowL O T u) = true) ∧ Ext w wr) (fun i _ _ => no - (intOf i).toNat)
                case atStart => exact ⟨1, Nat.le_refl _, by omega, rfl, fun u hu => by omega, HE.out⟩
                case round =>
                  clear HE hlt hv1 hv
                  obtain ⟨v, hv1, hv, rfl, ha, hE⟩ := hrel
                  have HA := Lib.hid ha; clear ha
                  by_cases hlt : v < no
                  · have hvL : v - 1 + 1 < O.length := by have := l1.out; omega
                    have q1' := HOK.out.lo (v - 1) (by omega)
                    have q2' := HOK.out.le (v - 1) hvL
                    have q3' := HOK.out.hi (v - 1 + 1) hvL
                    rw [show v - 1 + 1 = v by omega] at q2' q3'
                    have hrl := rowL_len HOK.out hvL
                    rw [show v - 1 + 1 = v by omega] at hrl
                    have c1 := hE.cell (HO.out.cI hlt)
                    have c0 := hE.cell (HO.out.cI (k := v - 1) (by omega))
                    have hnth := Lib.hid (fun j (hj : j < (rowL O T (v - 1)).length) => rowL_nth (O := O) (T := T) (v := v - 1) hj)
                    obtain ⟨a, hA⟩ : ∃ a : Nat, nth O (v - 1) = (a : Int) := ⟨(nth O (v - 1)).toNat, by omega⟩
                    obtain ⟨b, hB⟩ : ∃ b : Nat, nth O v = (b : Int) := ⟨(nth O v).toNat, by omega⟩
                    rw [hA] at c0 q1' q2' hrl hnth
                    rw [hB] at c1 q2' q3' hrl
                    simp only [Int.toNat_natCast] at hrl hnth
                    have hbn : b ≤ nt := by have := l2.out; omega
                    have hab : a ≤ b := by omega
                    have e1 : (0:Int) ≤ v := by omega
                    have e2 : (v:Int) < no := by omega
                    have e3 : (1:Int) ≤ (v:Int) := by omega
                    have e4 : (v:Int) - 1 < no := by omega
                    have e5 : (0:Int) ≤ (v:Int) - 1 := by omega
                    have hn' : ((O.length - 1 : Nat) : Int) = (no:Int) - 1 := by have := l1.out; omega
                    have HNO2 := Lib.hid (fun h => halfB_no2 (O := O) (T := T) (v := v - 1) (by omega) h)
                    have HPRE := Lib.hid (fun (h : okRow ((O.length - 1 : Nat) : Int) (rowL O T (v - 1)) = true) => (fun u (hu : u + 1 < v + 1) => by
                      by_cases h2 : u = v - 1
                      · rw [h2]; exact h
                      · exact HA.out u (by omega) : ∀ u, u + 1 < v + 1 → okRow ((O.length - 1 : Nat) : Int) (rowL O T u) = true))
                    rw [hn'] at HNO2 HPRE ⊢
                    have c1w := Lib.hid (HO.out.cI hlt)
                    have c0w := Lib.hid (HO.out.cI (k := v - 1) (by omega))
                    rw [hB] at c1w
                    rw [hA] at c0w
                    generalize rowL O T (v - 1) = l at *
                    have HRL := Lib.hid hrl
                    have HE := Lib.hid hE; clear hE
                    clear hA hB hrl q1' q2' q3' hn' hvL
                    go_wp2
                    go_loopw [7] (fun i wr => ∃ m j : Nat, m = a + j ∧ j ≤ b - a ∧ i = .int .i64 m ∧ (List.range j).all (okAt ((no:Int) - 1) l) = true ∧ Ext w wr) (fun i _ => b - (intOf i).toNat)
                    case atStart => exact ⟨a, 0, rfl, Nat.zero_le _, rfl, rfl, HE.out⟩
                    case round =>
                      clear HE c1 c0
                      obtain ⟨m, j, hm, hj, rfl, ha, hE⟩ := hrel
                      have c1 := hE.cell c1w.out
                      have c0 := hE.cell c0w.out
                      have HA' := Lib.hid ha; clear ha
                      have hm1 : a + j ≤ m := by omega
                      have hm2 : m ≤ a + j := by omega
                      by_cases hlj : j < b - a
                      · have hjl : j < l.length := by rw [HRL.out]; exact hlj
                        have t1 := hE.cell (HT.out.cI (k := m) (by omega))
                        have hx := hnth.out j hjl
                        rw [← hm] at hx
                        rw [← hx] at t1
                        clear hm
                        have f1 : (0:Int) ≤ m := by omega
                        have f2 : (m:Int) < b := by omega
                        have f3 : (m:Int) < nt := by omega
                        by_cases g1 : nth l j < 0
                        · have b1 : decide (nth l j < 0) = true := by simpa using g1
                          have HF : Hid (halfB O T = false) := HNO2.out (range_all_no _ _ j hjl (by unfold okAt; simp; omega))
                          clear hx
                          have HE := Lib.hid hE; clear hE
                          go_wp2
                          have x0 := fun x : ExtOf wr => x.ext.cell c0
                          have x1 := fun x : ExtOf wr => x.ext.cell t1
                          refine wp_region_ext (by kernel_rfl) (by kernel_rfl) ?_
                          repeat (go_big_quiet_step ((fail)))
                          refine wpQuiet_nil ?_
                          rintro w1 ⟨⟨_, hb1⟩, rfl⟩
                          go_wp2
                          go_ret
                          exact ⟨ret_bool HF.out.symm, Ext.trans HE.out hb1⟩
                        · have b1 : decide (nth l j < 0) = false := by simpa using g1
                          by_cases g2 : (no:Int) - 1 ≤ nth l j
                          · have b2 : decide ((no:Int) - 1 ≤ nth l j) = true := by simpa using g2
                            have HF : Hid (halfB O T = false) := HNO2.out (range_all_no _ _ j hjl (by unfold okAt; simp; omega))
                            clear hx
                            have HE := Lib.hid hE; clear hE
                            go_wp2
                            have x0 := fun x : ExtOf wr => x.ext.cell c0
                            have x1 := fun x : ExtOf wr => x.ext.cell t1
                            refine wp_region_ext (by kernel_rfl) (by kernel_rfl) ?_
                            repeat (go_big_quiet_step ((fail)))
                            refine wpQuiet_nil ?_
                            rintro w1 ⟨⟨_, hb1⟩, rfl⟩
                            go_wp2
                            go_ret
                            exact ⟨ret_bool HF.out.symm, Ext.trans HE.out hb1⟩
                          · have b2 : decide ((no:Int) - 1 ≤ nth l j) = false := by simpa using g2
                            by_cases hj0 : j = 0
                            · have b3 : decide ((a:Int) < (m:Int)) = false := by simp; omega
                              have b3n : decide (a < m) = false := by simp; omega
                              have HK : Hid (okAt ((no:Int) - 1) l j = true) := by unfold Hid okAt; simp; omega
                              clear hx hj0
                              have HE := Lib.hid hE; clear hE
                              go_wp2
                              have x0 := fun x : ExtOf wr => x.ext.cell c0
                              have x1 := fun x : ExtOf wr => x.ext.cell t1
                              refine wp_region_ext (by kernel_rfl) (by kernel_rfl) ?_
                              repeat (go_big_quiet_step ((fail)))
                              refine wpQuiet_nil ?_
                              rintro w1 ⟨⟨_, hb1⟩, rfl⟩
                              go_wp2
                              go_roundw
                              case rel => exact ⟨m + 1, j + 1, by omega, by omega, by go_num, range_all_succ _ _ HA'.out HK.out, Ext.trans HE.out hb1⟩
                              case measure => simp [intOf]; omega
                            · have b3 : decide ((a:Int) < (m:Int)) = true := by simp; omega
                              have b3n : decide (a < m) = true := by simp; omega
                              have t0 := hE.cell (HT.out.cI (k := m - 1) (by omega))
                              have hy := hnth.out (j - 1) (by omega)
                              rw [show a + (j - 1) = m - 1 by omega] at hy
                              rw [← hy] at t0
                              have f4 : (1:Int) ≤ (m:Int) := by omega
                              have f5 : (m:Int) - 1 < nt := by omega
                              have f6 : (0:Int) ≤ (m:Int) - 1 := by omega
                              by_cases g3 : nth l j ≤ nth l (j - 1)
                              · have b4 : decide (nth l j ≤ nth l (j - 1)) = true := by simpa using g3
                                have HF : Hid (halfB O T = false) := HNO2.out (range_all_no _ _ j hjl (by unfold okAt; simp; omega))
                                clear hx hy
                                have HE := Lib.hid hE; clear hE
                                go_wp2
                                have x0 := fun x : ExtOf wr => x.ext.cell c0
                                have x1 := fun x : ExtOf wr => x.ext.cell t1
                                have x2 := fun x : ExtOf wr => x.ext.cell t0
                                refine wp_region_ext (by kernel_rfl) (by kernel_rfl) ?_
                                repeat (go_big_quiet_step ((fail)))
                                refine wpQuiet_nil ?_
                                rintro w1 ⟨⟨_, hb1⟩, rfl⟩
                                go_wp2
                                go_ret
                                exact ⟨ret_bool HF.out.symm, Ext.trans HE.out hb1⟩
                              · have b4 : decide (nth l j ≤ nth l (j - 1)) = false := by simpa using g3
                                have HK : Hid (okAt ((no:Int) - 1) l j = true) := by unfold Hid okAt; simp; omega
                                clear hx hy
                                have HE := Lib.hid hE; clear hE
                                go_wp2
                                have x0 := fun x : ExtOf wr => x.ext.cell c0
                                have x1 := fun x : ExtOf wr => x.ext.cell t1
                                have x2 := fun x : ExtOf wr => x.ext.cell t0
                                refine wp_region_ext (by kernel_rfl) (by kernel_rfl) ?_
                                repeat (go_big_quiet_step ((fail)))
                                refine wpQuiet_nil ?_
                                rintro w1 ⟨⟨_, hb1⟩, rfl⟩
                                go_wp2
                                go_roundw
                                case rel => exact ⟨m + 1, j + 1, by omega, by omega, by go_num, range_all_succ _ _ HA'.out HK.out, Ext.trans HE.out hb1⟩
                                case measure => simp [intOf]; omega
                      · clear hm
                        have HOKR : Hid (okRow ((no:Int) - 1) l = true) := by unfold Hid okRow; rw [HRL.out, show b - a = j by omega]; exact HA'.out
                        have f2 : decide ((m:Int) < b) = false := by simp; omega
                        have f2n : decide (m < b) = false := by simp; omega
                        have HE := Lib.hid hE; clear hE
                        go_wp2
                        go_roundw
                        case rel => exact ⟨v + 1, by omega, by omega, by go_num, HPRE.out HOKR.out, HE.out⟩
                        case measure => simp [intOf]; omega
                  · have HF : Hid (halfB O T = true) := by
                      unfold Hid halfB
                      rw [HOF.out, Bool.true_and, List.all_eq_true]
                      intro u hu
                      rw [List.mem_range] at hu
                      exact HA.out u (by have := l1.out; omega)
                    have HE := Lib.hid hE; clear hE
                    go_wp2
                    go_ret
                    exact ⟨ret_bool HF.out.symm, HE.out⟩
        · have d5 : (nth O (no - 1) != (nt:Int)) = true := by simpa using h5
          have HF : Hid (halfB O T = false) := HNO.out (by rw [← l1.out, ← l2.out]; exact fun h => h5 h.2.2.2.2.1)
          clear h4 h5
          clear hO hT
          go_enter Tryz.func88, Tryz.ntmps88
          go_wp2
          go_ret
          exact ⟨ret_bool HF.out.symm, Below.refl _ _⟩
      · have d4 : (nth O 0 != 0) = true := by simpa using h4
        have HF : Hid (halfB O T = false) := HNO.out (fun h => h4 h.2.2.2.1)
        clear h4
        clear hO hT
        go_enter Tryz.func88, Tryz.ntmps88
        go_wp2
        go_ret
        exact ⟨ret_bool HF.out.symm, Below.refl _ _⟩
end Go.Proofs.YtkekibnhmfmhmaaGreat
/- The reference's Check of rows. -/
namespace Go.Proofs.YtkekibnhmfmhmaaGreat
open Go Go.RowKit
set_option maxRecDepth 100000 in
set_option maxHeartbeats 4000000 in
theorem Check04_no (po : Option Addr) (no co : Nat) (O : List Int) (pt : Option Addr) (nt ct : Nat) (T : List Int) (pr : Option Addr) (nr cr : Nat) (R : List Int) (pv : Option Addr) (nv cv : Nat) (V : List Int) (w : World) (hO : Rd w 1 po no (encI O)) (hT : Rd w 1 pt nt (encI T)) (hR : Rd w 1 pr nr (encI R)) (hV : Rd w 1 pv nv (encI V)) (hct : nt ≤ ct) (hcv : nv ≤ cv) (h : no ≠ nr ∨ nt ≠ nv ∨ halfB O T = false ∨ halfB R V = false) :
    Calls Tryz.prog 57 #[.agg #[.slice po no co, .slice pt nt ct, .slice pr nr cr, .slice pv nv cv]] w fun e w' => e = .returned (.bool false) ∧ Ext w w' := by
  have _u := And.intro hct hcv
  have S0 := Lib.hid ((Sep.start w).al #[.slice po no co, .slice pt nt ct, .slice pr nr cr, .slice pv nv cv] 41 w.heap.size rfl)
  have HH1 := Lib.hid (fun W1 (h : Ext w W1) => half04 po no co O pt nt ct T W1 (hO.ext h) (hT.ext h))
  have HH2 := Lib.hid (fun W1 (h : Ext w W1) => half04 pr nr cr R pv nv cv V W1 (hR.ext h) (hV.ext h))
  clear hO hT hR hV
  by_cases h1 : no = nr
  · have d1 : ((no:Int) != (nr:Int)) = false := by simp; omega
    cases h3 : halfB O T with
    | false =>
      rw [h3] at HH1
      clear h h1 h3
      go_enter Tryz.func57, Tryz.ntmps57
      go_wp2_with (go_at_call 88; go_must (refine (HH1.out _ S0.out.ext).mono ?_; rintro e w1 ⟨rfl, hb⟩; have S1 := Lib.hid (S0.out.call hb); have az := (S1.out.blk 0 rfl).lt; have a0 := (S1.out.blk 0 rfl).cell 0; have a1 := (S1.out.blk 0 rfl).cell 1; have a2 := (S1.out.blk 0 rfl).cell 2; have a3 := (S1.out.blk 0 rfl).cell 3; clear hb))
      go_ret
      exact ⟨rfl, S1.out.ext⟩
    | true =>
      rw [h3] at HH1
      cases h4 : halfB R V with
      | false =>
        rw [h4] at HH2
        clear h h1 h3 h4
        go_enter Tryz.func57, Tryz.ntmps57
        go_wp2_with (first | (go_at_call 88; have _t := S1; go_must (refine (HH2.out _ S1.out.ext).mono ?_; rintro e w2 ⟨rfl, hb⟩; have S2 := Lib.hid (S1.out.call hb); have bz := (S2.out.blk 0 rfl).lt; have b0 := (S2.out.blk 0 rfl).cell 0; have b1 := (S2.out.blk 0 rfl).cell 1; have b2 := (S2.out.blk 0 rfl).cell 2; have b3 := (S2.out.blk 0 rfl).cell 3; clear hb)) | (go_at_call 88; go_must (refine (HH1.out _ S0.out.ext).mono ?_; rintro e w1 ⟨rfl, hb⟩; have S1 := Lib.hid (S0.out.call hb); have az := (S1.out.blk 0 rfl).lt; have a0 := (S1.out.blk 0 rfl).cell 0; have a1 := (S1.out.blk 0 rfl).cell 1; have a2 := (S1.out.blk 0 rfl).cell 2; have a3 := (S1.out.blk 0 rfl).cell 3; clear hb)))
        go_ret
        exact ⟨rfl, S2.out.ext⟩
      | true =>
        rw [h4] at HH2
        have d2 : ((nt:Int) != (nv:Int)) = true := by
          rcases h with h | h | h | h
          · exact absurd h1 h
          · simp; omega
          · rw [h3] at h; cases h
          · rw [h4] at h; cases h
        clear h h1 h3 h4
        go_enter Tryz.func57, Tryz.ntmps57
        go_wp2_with (first | (go_at_call 88; have _t := S1; go_must (refine (HH2.out _ S1.out.ext).mono ?_; rintro e w2 ⟨rfl, hb⟩; have S2 := Lib.hid (S1.out.call hb); have bz := (S2.out.blk 0 rfl).lt; have b0 := (S2.out.blk 0 rfl).cell 0; have b1 := (S2.out.blk 0 rfl).cell 1; have b2 := (S2.out.blk 0 rfl).cell 2; have b3 := (S2.out.blk 0 rfl).cell 3; clear hb)) | (go_at_call 88; go_must (refine (HH1.out _ S0.out.ext).mono ?_; rintro e w1 ⟨rfl, hb⟩; have S1 := Lib.hid (S0.out.call hb); have az := (S1.out.blk 0 rfl).lt; have a0 := (S1.out.blk 0 rfl).cell 0; have a1 := (S1.out.blk 0 rfl).cell 1; have a2 := (S1.out.blk 0 rfl).cell 2; have a3 := (S1.out.blk 0 rfl).cell 3; clear hb)))
        go_ret
        exact ⟨rfl, S2.out.ext⟩
  · have d1 : ((no:Int) != (nr:Int)) = true := by simp; omega
    clear h h1
    go_enter Tryz.func57, Tryz.ntmps57
    go_wp2
    go_ret
    exact ⟨rfl, S0.out.ext⟩
def ChkQ (m : List Int) (k : Int) (i : Nat) (v : Value) (W : World) : Prop :=
  match i with
  | 8 => ∃ q c, v = .slice q m.length c ∧ Rd W 1 q m.length (encI m)
  | 10 => v = .bool (inB m k)
  | _ => True
theorem ChkQ_mono {m : List Int} {k : Int} : ∀ i v W W', Ext W W' → ChkQ m k i v W → ChkQ m k i v W' := by
  intro i v W W' he h
  unfold ChkQ at *
  split at h
  · obtain ⟨q, c, h1, h2⟩ := h; exact ⟨q, c, h1, h2.ext he⟩
  · exact h
  · trivial
theorem rowX_take_all {O T R V : List Int} {k j : Nat} (hj : j < (rowL O T k).length) : ((rowX O T k).take (j + 1)).all (backB R V) = (((rowX O T k).take j).all (backB R V) && inB (rowL R V (nth (rowL O T k) j).toNat) k) := by
  rw [rowX_take hj, List.all_append]; simp [backB]
set_option maxRecDepth 100000 in
set_option maxHeartbeats 8000000 in
theorem Check04_yes (po : Option Addr) (no co : Nat) (O : List Int) (pt : Option Addr) (nt ct : Nat) (T : List Int) (pr : Option Addr) (nr cr : Nat) (R : List Int) (pv : Option Addr) (nv cv : Nat) (V : List Int) (w : World) (hO : Rd w 1 po no (encI O)) (hT : Rd w 1 pt nt (encI T)) (hR : Rd w 1 pr nr (encI R)) (hV : Rd w 1 pv nv (encI V)) (hct : nt ≤ ct) (hcv : nv ≤ cv) (e1 : no = nr) (e2 : nt = nv) (h1 : halfB O T = true) (h2 : halfB R V = true) :
    Calls Tryz.prog 57 #[.agg #[.slice po no co, .slice pt nt ct, .slice pr nr cr, .slice pv nv cv]] w fun e w' => e = .returned (.bool ((pairs O T).all (backB R V))) ∧ Ext w w' := by
  have l1 := hO.nI
  have l2 := hT.nI
  have l3 := hR.nI
  have l4 := hV.nI
  have n1 := hO.small
  have S0 := Lib.hid ((Sep.start w).al #[.slice po no co, .slice pt nt ct, .slice pr nr cr, .slice pv nv cv] 41 w.heap.size rfl)
  have HH1 := Lib.hid (fun W1 (h : Ext w W1) => half04 po no co O pt nt ct T W1 (hO.ext h) (hT.ext h))
  have HH2 := Lib.hid (fun W1 (h : Ext w W1) => half04 pr nr cr R pv nv cv V W1 (hR.ext h) (hV.ext h))
  rw [h1] at HH1
  rw [h2] at HH2
  have d1 : ((no:Int) != (nr:Int)) = false := by simp; omega
  have d2 : ((nt:Int) != (nv:Int)) = false := by simp; omega
  have r := offB_parts (halfB_off h1)
  have r' := offB_parts (halfB_off h2)
  have HR1 := Lib.hid (fun W1 (h : Ext w W1) k (hk : k + 1 < O.length) => row04 po no co O pt nt ct T k W1 (hO.ext h) (hT.ext h) hct (offOk_of (halfB_off h1)) hk (by omega))
  have HR2 := Lib.hid (fun W1 (h : Ext w W1) k (hk : k + 1 < R.length) => row04 pr nr cr R pv nv cv V k W1 (hR.ext h) (hV.ext h) hcv (offOk_of (halfB_off h2)) hk (by omega))
  have HPB := Lib.hid (fun x (hx : x ∈ pairs O T) => pair_bd h1 hx)
  have L1 := Lib.hid l1
  have L3 := Lib.hid l3
  have E1 := Lib.hid e1
  have rl2000 : ∀ k, (rowL O T k).length ≤ 2000 := fun k => by unfold rowL; rw [List.length_take, List.length_drop]; omega
  have ru2000 : ∀ k, (rowL R V k).length ≤ 2000 := fun k => by unfold rowL; rw [List.length_take, List.length_drop]; omega
  have RL := Lib.hid rl2000
  have RU := Lib.hid ru2000
  have no200 : no ≤ 201 := by omega
  clear hO hT hR hV h1 h2 l1 l2 l3 l4 e1 e2 r r' rl2000 ru2000
  go_enter Tryz.func57, Tryz.ntmps57
  go_wp2_with (first | (go_at_call 88; have _t := S1; go_must (refine (HH2.out _ S1.out.ext).mono ?_; rintro e w2 ⟨rfl, hb⟩; have S2 := Lib.hid (S1.out.call hb); have bz := (S2.out.blk 0 rfl).lt; have b0 := (S2.out.blk 0 rfl).cell 0; have b1 := (S2.out.blk 0 rfl).cell 1; have b2 := (S2.out.blk 0 rfl).cell 2; have b3 := (S2.out.blk 0 rfl).cell 3; clear hb)) | (go_at_call 88; go_must (refine (HH1.out _ S0.out.ext).mono ?_; rintro e w1 ⟨rfl, hb⟩; have S1 := Lib.hid (S0.out.call hb); have az := (S1.out.blk 0 rfl).lt; have a0 := (S1.out.blk 0 rfl).cell 0; have a1 := (S1.out.blk 0 rfl).cell 1; have a2 := (S1.out.blk 0 rfl).cell 2; have a3 := (S1.out.blk 0 rfl).cell 3; clear hb)))
  go_loopw [3, 4, 5] (fun v _ _ wr => ∃ k : Nat, k ≤ no - 1 ∧ v = .int .i64 k ∧ (pairsK O T k).all (backB R V) = true ∧ Sep w wr [.blk w.heap.size 41 #[.slice po no co, .slice pt nt ct, .slice pr nr cr, .slice pv nv cv]]) (fun v _ _ _ => no - 1 - (intOf v).toNat)
  case atStart => exact ⟨0, Nat.zero_le _, rfl, rfl, S2.out⟩
  case round =>
    clear S0 S1 S2
    obtain ⟨k, hk, rfl, ha, S⟩ := hrel
    have HA := Lib.hid ha; clear ha
    have az := (S.blk 0 rfl).lt; have a0 := (S.blk 0 rfl).cell 0; have a1 := (S.blk 0 rfl).cell 1; have a2 := (S.blk 0 rfl).cell 2; have a3 := (S.blk 0 rfl).cell 3
    by_cases hlt : k < no - 1
    · have hkO : k + 1 < O.length := by have := L1.out; omega
      have t1 : (k:Int) + 1 < no := by omega
      have t0 : (0:Int) ≤ k := by omega
      have HRk := Lib.hid (fun W1 (h : Ext w W1) => HR1.out W1 h k hkO)
      have rlk := RL.out k
      have hpair := Lib.hid (fun j (hj : j < (rowL O T k).length) => pairs_at (O := O) (T := T) (k := k) (by omega) hj)
      have hstep := Lib.hid (fun j (hj : j < (rowL O T k).length) => rowX_take_all (R := R) (V := V) hj)
      have hpre := Lib.hid (fun j => pairs_prefix (O := O) (T := T) (k := k) (j := j) (by omega))
      have hend : Hid ((rowX O T k).take (rowL O T k).length = rowX O T k) := by unfold Hid rowX; rw [List.take_of_length_le (by simp)]
      have hps := Lib.hid (pairsK_step O T k)
      generalize rowL O T k = l at *
      generalize rowX O T k = xs at *
      have SH := Lib.hid S; clear S
      go_wp2_with (go_at_call 89; go_must (refine (HRk.out _ SH.out.ext).mono ?_; rintro e w3 ⟨q, c, rfl, Z⟩; have P1 := Lib.hid (SH.out.comp Z); clear Z))
      go_loopw [5] (fun i wr => ∃ j : Nat, j ≤ l.length ∧ i = .int .i64 j ∧ (xs.take j).all (backB R V) = true ∧ Sep w wr [.own 3 1 q l.length c (encI l), .blk w.heap.size 41 #[.slice po no co, .slice pt nt ct, .slice pr nr cr, .slice pv nv cv]]) (fun i _ => l.length - (intOf i).toNat)
      case atStart => exact ⟨0, Nat.zero_le _, rfl, by simp, P1.out⟩
      case round =>
        clear SH P1 a0 a1 a2 a3 az
        obtain ⟨j, hj, rfl, hb, S⟩ := hrel
        have HB := Lib.hid hb; clear hb
        have az := (S.blk 1 rfl).lt; have a0 := (S.blk 1 rfl).cell 0; have a1 := (S.blk 1 rfl).cell 1; have a2 := (S.blk 1 rfl).cell 2; have a3 := (S.blk 1 rfl).cell 3
        have pq := (S.rd 0 rfl (by omega)).ptr
        by_cases hlj : j < l.length
        · have g1 := (S.rd 0 rfl (by omega)).cI hlj
          have hpb := HPB.out _ (hpair.out j hlj)
          simp only at hpb
          obtain ⟨u, hu⟩ : ∃ u : Nat, nth l j = (u : Int) := ⟨(nth l j).toNat, by omega⟩
          have huR : u + 1 < R.length := by have := L1.out; have := L3.out; have := E1.out; omega
          have HRu := Lib.hid (fun W1 (h : Ext w W1) => HR2.out W1 h u huR)
          have hst := hstep.out j hlj
          rw [HB.out, Bool.true_and, hu, Int.toNat_natCast] at hst
          have HST := Lib.hid hst
          have ruk := RU.out u
          rw [hu] at g1
          generalize rowL R V u = m at *
          have t2 : (0:Int) ≤ j := by omega
          have t3 : (j:Int) < l.length := by omega
          clear hst hpb hu
          have SH := Lib.hid S; clear S
          cases hin : inB m (k:Int) with
          | true =>
            rw [hin] at HST
            go_wp2
            have x2 := fun x : ExtOf wr => x.ext.cell a2
            have x3 := fun x : ExtOf wr => x.ext.cell a3
            have x1 := fun x : ExtOf wr => x.ext.cell g1
            refine wp_region_mix [true, true, true, true, true, true, true, true, false, true, false] (ChkQ m k) (by kernel_rfl) (by kernel_rfl) (by kernel_rfl) ChkQ_mono ?_
            simp only [nfM]
            repeat (go_big_quiet_step ((fail)))
            refine wpQuiet_nil ⟨⟨fun vs W1 hE hd => ?_, fun vs W1 hE hd => ?_, trivial⟩, fun vs W1 hE hkn => ?_⟩
            · simp [putM, go_sem]
              exact (HRu.out _ (Ext.trans SH.out.ext hE)).mono fun e w' ⟨q, c, h1, S⟩ => ⟨_, h1, ⟨q, c, rfl, S.rd 0 rfl (by omega)⟩, S.ext⟩
            · obtain ⟨q, c, e1, e2⟩ := hd 8 (by decide) rfl
              simp [putM, go_sem, e1]
              exact (In04x q _ c m k W1 e2).mono fun e w' ⟨h1, h2⟩ => ⟨_, h1, rfl, h2⟩
            obtain ⟨⟨q', c', k1, _⟩, k2, _⟩ := hkn
            have k2 : vs 10 = .bool (inB m k) := k2
            rw [hin] at k2
            have SY := Lib.hid (SH.out.call hE)
            simp only [putM, k1, k2, List.length_cons, List.length_nil, Nat.zero_add, Nat.reduceAdd, List.drop_succ_cons, List.drop_zero]
            clear x1 x2 x3 k1 k2 hE
            go_wp2
            go_roundw
            case rel => exact ⟨j + 1, by omega, by go_num, HST.out, SY.out⟩
            case measure => simp [intOf]; omega
          | false =>
            rw [hin] at HST
            have HF : Hid ((pairs O T).all (backB R V) = false) := by
              obtain ⟨t, ht⟩ := hpre.out (j + 1)
              unfold Hid
              rw [← ht, List.all_append, List.all_append, HST.out]; simp
            go_wp2
            have x2 := fun x : ExtOf wr => x.ext.cell a2
            have x3 := fun x : ExtOf wr => x.ext.cell a3
            have x1 := fun x : ExtOf wr => x.ext.cell g1
            refine wp_region_mix [true, true, true, true, true, true, true, true, false, true, false] (ChkQ m k) (by kernel_rfl) (by kernel_rfl) (by kernel_rfl) ChkQ_mono ?_
            simp only [nfM]
            repeat (go_big_quiet_step ((fail)))
            refine wpQuiet_nil ⟨⟨fun vs W1 hE hd => ?_, fun vs W1 hE hd => ?_, trivial⟩, fun vs W1 hE hkn => ?_⟩
            · simp [putM, go_sem]
              exact (HRu.out _ (Ext.trans SH.out.ext hE)).mono fun e w' ⟨q, c, h1, S⟩ => ⟨_, h1, ⟨q, c, rfl, S.rd 0 rfl (by omega)⟩, S.ext⟩
            · obtain ⟨q, c, e1, e2⟩ := hd 8 (by decide) rfl
              simp [putM, go_sem, e1]
              exact (In04x q _ c m k W1 e2).mono fun e w' ⟨h1, h2⟩ => ⟨_, h1, rfl, h2⟩
            obtain ⟨⟨q', c', k1, _⟩, k2, _⟩ := hkn
            have k2 : vs 10 = .bool (inB m k) := k2
            rw [hin] at k2
            have SY := Lib.hid (SH.out.call hE)
            simp only [putM, k1, k2, List.length_cons, List.length_nil, Nat.zero_add, Nat.reduceAdd, List.drop_succ_cons, List.drop_zero]
            clear x1 x2 x3 k1 k2 hE
            go_wp2
            go_ret
            exact ⟨ret_bool HF.out.symm, SY.out.ext⟩
        · obtain rfl : j = l.length := by omega
          have hb := HB.out
          rw [hend.out] at hb
          have HK : Hid ((pairsK O T (k + 1)).all (backB R V) = true) := by unfold Hid; rw [hps.out, List.all_append, HA.out, hb]; rfl
          clear hb
          have SH := Lib.hid S; clear S
          go_wp2
          go_roundw
          case rel => exact ⟨k + 1, by omega, by go_num, HK.out, SH.out.pick [1] (by decide) rfl⟩
          case measure => simp [intOf]; omega
    · have HF : Hid ((pairs O T).all (backB R V) = true) := by
        unfold Hid pairs
        rw [show O.length - 1 = k by have := L1.out; omega]; exact HA.out
      have t1 : decide ((k:Int) + 1 < no) = false := by simp; omega
      have SH := Lib.hid S; clear S
      go_wp2
      go_ret
      exact ⟨ret_bool HF.out.symm, SH.out.ext⟩
theorem Check04 (po : Option Addr) (no co : Nat) (O : List Int) (pt : Option Addr) (nt ct : Nat) (T : List Int) (pr : Option Addr) (nr cr : Nat) (R : List Int) (pv : Option Addr) (nv cv : Nat) (V : List Int) (w : World) (hO : Rd w 1 po no (encI O)) (hT : Rd w 1 pt nt (encI T)) (hR : Rd w 1 pr nr (encI R)) (hV : Rd w 1 pv nv (encI V)) (hct : nt ≤ ct) (hcv : nv ≤ cv) : Calls Tryz.prog 57 #[.agg #[.slice po no co, .slice pt nt ct, .slice pr nr cr, .slice pv nv cv]] w fun e w' => e = .returned (.bool (checkR O T R V)) ∧ Ext w w' := by
  have l1 := hO.nI
  have l2 := hT.nI
  have l3 := hR.nI
  have l4 := hV.nI
  by_cases h : no ≠ nr ∨ nt ≠ nv ∨ halfB O T = false ∨ halfB R V = false
  · rw [checkR_no (by rw [← l1, ← l2, ← l3, ← l4]; exact h)]
    exact Check04_no po no co O pt nt ct T pr nr cr R pv nv cv V w hO hT hR hV hct hcv h
  · have h1 : no = nr := by
      by_cases h1 : no = nr
      · exact h1
      · exact absurd (.inl h1) h
    have h2 : nt = nv := by
      by_cases h2 : nt = nv
      · exact h2
      · exact absurd (.inr (.inl h2)) h
    have h3 : halfB O T = true := by
      cases h3 : halfB O T with
      | true => rfl
      | false => exact absurd (.inr (.inr (.inl h3))) h
    have h4 : halfB R V = true := by
      cases h4 : halfB R V with
      | true => rfl
      | false => exact absurd (.inr (.inr (.inr h4))) h
    have : checkR O T R V = (pairs O T).all (backB R V) := by
      unfold checkR
      rw [h3, h4, ← l1, ← l2, ← l3, ← l4, h1, h2]
      simp only [decide_true, Bool.true_and]
      rfl
    rw [this]
    exact Check04_yes po no co O pt nt ct T pr nr cr R pv nv cv V w hO hT hR hV hct hcv h1 h2 h3 h4
end Go.Proofs.YtkekibnhmfmhmaaGreat
/- The reference's Out, In, Has, Own of rows. -/
namespace Go.Proofs.YtkekibnhmfmhmaaGreat
open Go Go.RowKit
set_option maxRecDepth 100000 in
set_option maxHeartbeats 4000000 in
theorem Out04 (po : Option Addr) (no co : Nat) (O : List Int) (pt : Option Addr) (nt ct : Nat) (T : List Int) (pr : Option Addr) (nr cr : Nat) (R : List Int) (pv : Option Addr) (nv cv : Nat) (V : List Int) (w : World) (v : Int) (hO : Rd w 1 po no (encI O)) (hT : Rd w 1 pt nt (encI T)) (hR : Rd w 1 pr nr (encI R)) (hV : Rd w 1 pv nv (encI V)) (hct : nt ≤ ct) (hcv : nv ≤ cv) : Calls Tryz.prog 58 #[.agg #[.slice po no co, .slice pt nt ct, .slice pr nr cr, .slice pv nv cv], .int .i64 v] w fun e w' => ∃ q c, e = .returned (.tuple #[.slice q (outL (checkR O T R V) O T v).length c, .bool (outB (checkR O T R V) O v)]) ∧ Sep w w' [.own 3 1 q (outL (checkR O T R V) O T v).length c (encI (outL (checkR O T R V) O T v))] := by
  have S0 := Lib.hid ((Sep.start w).al #[.slice po no co, .slice pt nt ct, .slice pr nr cr, .slice pv nv cv] 41 w.heap.size rfl)
  have HC := Lib.hid (fun W1 (h : Ext w W1) => Check04 po no co O pt nt ct T pr nr cr R pv nv cv V W1 (hO.ext h) (hT.ext h) (hR.ext h) (hV.ext h) hct hcv)
  have n1 := hO.small
  cases hck : checkR O T R V with
  | false =>
    rw [hck] at HC
    have hno : outB false O v = false := rfl
    rw [outL_no hno, hno]
    clear hO hT hR hV hck hno
    go_enter Tryz.func58, Tryz.ntmps58
    go_wp2_with (go_at_call 57; go_must (refine (HC.out _ S0.out.ext).mono ?_; rintro e w1 ⟨rfl, hb⟩; have S1 := Lib.hid (S0.out.call hb); have az := (S1.out.blk 0 rfl).lt; have a0 := (S1.out.blk 0 rfl).cell 0; have a1 := (S1.out.blk 0 rfl).cell 1; have a2 := (S1.out.blk 0 rfl).cell 2; have a3 := (S1.out.blk 0 rfl).cell 3; clear hb))
    go_ret2
    exact ⟨none, 0, rfl, ((Sep.start w).call S1.out.ext).nilrow _ _⟩
  | true =>
    rw [hck] at HC
    obtain ⟨e1, e2, e3, e4⟩ := checkR_half hck
    have r := offB_parts (halfB_off e3)
    have hof := offOk_of (halfB_off e3)
    have l1 := hO.nI
    have l2 := hT.nI
    by_cases h1 : v < 0
    · have b1 : decide (v < 0) = true := by simpa using h1
      have hno : outB true O v = false := by unfold outB; simp; omega
      rw [outL_no hno, hno]
      clear hO hT hR hV hck hno e1 e2 e3 e4 r hof l1 l2
      go_enter Tryz.func58, Tryz.ntmps58
      go_wp2_with (go_at_call 57; go_must (refine (HC.out _ S0.out.ext).mono ?_; rintro e w1 ⟨rfl, hb⟩; have S1 := Lib.hid (S0.out.call hb); have az := (S1.out.blk 0 rfl).lt; have a0 := (S1.out.blk 0 rfl).cell 0; have a1 := (S1.out.blk 0 rfl).cell 1; have a2 := (S1.out.blk 0 rfl).cell 2; have a3 := (S1.out.blk 0 rfl).cell 3; clear hb))
      go_ret2
      exact ⟨none, 0, rfl, ((Sep.start w).call S1.out.ext).nilrow _ _⟩
    · have b1 : decide (v < 0) = false := by simpa using h1
      by_cases h2 : (no:Int) - 1 ≤ v
      · have b2 : decide ((no:Int) - 1 ≤ v) = true := by simpa using h2
        have hno : outB true O v = false := by unfold outB; simp; omega
        rw [outL_no hno, hno]
        clear hO hT hR hV hck hno e1 e2 e3 e4 r hof l1 l2
        go_enter Tryz.func58, Tryz.ntmps58
        go_wp2_with (go_at_call 57; go_must (refine (HC.out _ S0.out.ext).mono ?_; rintro e w1 ⟨rfl, hb⟩; have S1 := Lib.hid (S0.out.call hb); have az := (S1.out.blk 0 rfl).lt; have a0 := (S1.out.blk 0 rfl).cell 0; have a1 := (S1.out.blk 0 rfl).cell 1; have a2 := (S1.out.blk 0 rfl).cell 2; have a3 := (S1.out.blk 0 rfl).cell 3; clear hb))
        go_ret2
        exact ⟨none, 0, rfl, ((Sep.start w).call S1.out.ext).nilrow _ _⟩
      · have b2 : decide ((no:Int) - 1 ≤ v) = false := by simpa using h2
        have hyes : outB true O v = true := by unfold outB; simp; omega
        rw [outL_yes hyes, hyes]
        obtain ⟨k, rfl⟩ : ∃ k : Nat, v = (k : Int) := ⟨v.toNat, by omega⟩
        rw [Int.toNat_natCast]
        have HR := Lib.hid (fun W1 (h : Ext w W1) => row04 po no co O pt nt ct T k W1 (hO.ext h) (hT.ext h) hct hof (by omega) (by omega))
        clear hO hT hR hV hck hyes e1 e2 e3 e4 r hof l1 l2
        go_enter Tryz.func58, Tryz.ntmps58
        go_wp2_with (first | (go_at_call 89; go_must (refine (HR.out _ S1.out.ext).mono ?_; rintro e w2 ⟨q, c, rfl, Z⟩; have S2 := Lib.hid (S1.out.comp Z); clear Z)) | (go_at_call 57; go_must (refine (HC.out _ S0.out.ext).mono ?_; rintro e w1 ⟨rfl, hb⟩; have S1 := Lib.hid (S0.out.call hb); have az := (S1.out.blk 0 rfl).lt; have a0 := (S1.out.blk 0 rfl).cell 0; have a1 := (S1.out.blk 0 rfl).cell 1; have a2 := (S1.out.blk 0 rfl).cell 2; have a3 := (S1.out.blk 0 rfl).cell 3; clear hb)))
        go_ret2
        exact ⟨q, c, rfl, S2.out.pick [0] (by decide) rfl⟩
set_option maxRecDepth 100000 in
set_option maxHeartbeats 4000000 in
theorem In04 (po : Option Addr) (no co : Nat) (O : List Int) (pt : Option Addr) (nt ct : Nat) (T : List Int) (pr : Option Addr) (nr cr : Nat) (R : List Int) (pv : Option Addr) (nv cv : Nat) (V : List Int) (w : World) (v : Int) (hO : Rd w 1 po no (encI O)) (hT : Rd w 1 pt nt (encI T)) (hR : Rd w 1 pr nr (encI R)) (hV : Rd w 1 pv nv (encI V)) (hct : nt ≤ ct) (hcv : nv ≤ cv) : Calls Tryz.prog 59 #[.agg #[.slice po no co, .slice pt nt ct, .slice pr nr cr, .slice pv nv cv], .int .i64 v] w fun e w' => ∃ q c, e = .returned (.tuple #[.slice q (outL (checkR O T R V) R V v).length c, .bool (outB (checkR O T R V) R v)]) ∧ Sep w w' [.own 3 1 q (outL (checkR O T R V) R V v).length c (encI (outL (checkR O T R V) R V v))] := by
  have S0 := Lib.hid ((Sep.start w).al #[.slice po no co, .slice pt nt ct, .slice pr nr cr, .slice pv nv cv] 41 w.heap.size rfl)
  have HC := Lib.hid (fun W1 (h : Ext w W1) => Check04 po no co O pt nt ct T pr nr cr R pv nv cv V W1 (hO.ext h) (hT.ext h) (hR.ext h) (hV.ext h) hct hcv)
  have n1 := hO.small
  cases hck : checkR O T R V with
  | false =>
    rw [hck] at HC
    have hno : outB false R v = false := rfl
    rw [outL_no hno, hno]
    clear hO hT hR hV hck hno
    go_enter Tryz.func59, Tryz.ntmps59
    go_wp2_with (go_at_call 57; go_must (refine (HC.out _ S0.out.ext).mono ?_; rintro e w1 ⟨rfl, hb⟩; have S1 := Lib.hid (S0.out.call hb); have az := (S1.out.blk 0 rfl).lt; have a0 := (S1.out.blk 0 rfl).cell 0; have a1 := (S1.out.blk 0 rfl).cell 1; have a2 := (S1.out.blk 0 rfl).cell 2; have a3 := (S1.out.blk 0 rfl).cell 3; clear hb))
    go_ret2
    exact ⟨none, 0, rfl, ((Sep.start w).call S1.out.ext).nilrow _ _⟩
  | true =>
    rw [hck] at HC
    obtain ⟨e1, e2, e3, e4⟩ := checkR_half hck
    have r := offB_parts (halfB_off e4)
    have hof := offOk_of (halfB_off e4)
    have l1 := hO.nI
    have l2 := hV.nI
    by_cases h1 : v < 0
    · have b1 : decide (v < 0) = true := by simpa using h1
      have hno : outB true R v = false := by unfold outB; simp; omega
      rw [outL_no hno, hno]
      clear hO hT hR hV hck hno e1 e2 e3 e4 r hof l1 l2
      go_enter Tryz.func59, Tryz.ntmps59
      go_wp2_with (go_at_call 57; go_must (refine (HC.out _ S0.out.ext).mono ?_; rintro e w1 ⟨rfl, hb⟩; have S1 := Lib.hid (S0.out.call hb); have az := (S1.out.blk 0 rfl).lt; have a0 := (S1.out.blk 0 rfl).cell 0; have a1 := (S1.out.blk 0 rfl).cell 1; have a2 := (S1.out.blk 0 rfl).cell 2; have a3 := (S1.out.blk 0 rfl).cell 3; clear hb))
      go_ret2
      exact ⟨none, 0, rfl, ((Sep.start w).call S1.out.ext).nilrow _ _⟩
    · have b1 : decide (v < 0) = false := by simpa using h1
      by_cases h2 : (no:Int) - 1 ≤ v
      · have b2 : decide ((no:Int) - 1 ≤ v) = true := by simpa using h2
        have hno : outB true R v = false := by unfold outB; simp; omega
        rw [outL_no hno, hno]
        clear hO hT hR hV hck hno e1 e2 e3 e4 r hof l1 l2
        go_enter Tryz.func59, Tryz.ntmps59
        go_wp2_with (go_at_call 57; go_must (refine (HC.out _ S0.out.ext).mono ?_; rintro e w1 ⟨rfl, hb⟩; have S1 := Lib.hid (S0.out.call hb); have az := (S1.out.blk 0 rfl).lt; have a0 := (S1.out.blk 0 rfl).cell 0; have a1 := (S1.out.blk 0 rfl).cell 1; have a2 := (S1.out.blk 0 rfl).cell 2; have a3 := (S1.out.blk 0 rfl).cell 3; clear hb))
        go_ret2
        exact ⟨none, 0, rfl, ((Sep.start w).call S1.out.ext).nilrow _ _⟩
      · have b2 : decide ((no:Int) - 1 ≤ v) = false := by simpa using h2
        have hyes : outB true R v = true := by unfold outB; simp; omega
        rw [outL_yes hyes, hyes]
        obtain ⟨k, rfl⟩ : ∃ k : Nat, v = (k : Int) := ⟨v.toNat, by omega⟩
        rw [Int.toNat_natCast]
        have HRo := Lib.hid (fun W1 (h : Ext w W1) => row04 pr nr cr R pv nv cv V k W1 (hR.ext h) (hV.ext h) hcv hof (by omega) (by omega))
        clear hO hT hR hV hck hyes e1 e2 e3 e4 r hof l1 l2
        go_enter Tryz.func59, Tryz.ntmps59
        go_wp2_with (first | (go_at_call 89; go_must (refine (HRo.out _ S1.out.ext).mono ?_; rintro e w2 ⟨q, c, rfl, Z⟩; have S2 := Lib.hid (S1.out.comp Z); clear Z)) | (go_at_call 57; go_must (refine (HC.out _ S0.out.ext).mono ?_; rintro e w1 ⟨rfl, hb⟩; have S1 := Lib.hid (S0.out.call hb); have az := (S1.out.blk 0 rfl).lt; have a0 := (S1.out.blk 0 rfl).cell 0; have a1 := (S1.out.blk 0 rfl).cell 1; have a2 := (S1.out.blk 0 rfl).cell 2; have a3 := (S1.out.blk 0 rfl).cell 3; clear hb)))
        go_ret2
        exact ⟨q, c, rfl, S2.out.pick [0] (by decide) rfl⟩
end Go.Proofs.YtkekibnhmfmhmaaGreat
/- The document's example rows. -/
namespace Go.Proofs.YtkekibnhmfmhmaaGreat
open Go Go.RowKit
def exE3 : List (Int × Int) := [(0, 1), (0, 2), (2, 1)]
def exO : List Int := [0, 2, 2, 3]
def exT : List Int := [1, 2, 1]
def exR : List Int := [0, 0, 2, 3]
def exV : List Int := [0, 2, 0]
theorem exI3 : isB 3 exE3 [[], [], []] = true := by decide
theorem exO_eq : offL 3 exE3 = exO := by decide
theorem exT_eq : toL exE3 = exT := by decide
theorem exR_eq : offL 3 (turnE exE3) = exR := by decide
theorem exV_eq : toL (turnE exE3) = exV := by decide
theorem exCk : checkR exO exT exR exV = true := by decide
theorem exIn : outL true exR exV 1 = [0, 2] ∧ outB true exR 1 = true := by decide
theorem exH1 : hasB true exO exT 0 2 = true := by decide
theorem exH2 : hasB true exO exT 1 0 = false := by decide
theorem exI0 : isB 0 [] [] = false := by decide
/-- four slices are read -/
structure R4 (w : World) (po : Option Addr) (no : Nat) (pt : Option Addr) (nt : Nat) (pr : Option Addr) (nr : Nat) (pv : Option Addr) (nv : Nat) (O T R V : List Int) : Prop where
  o : Rd w 1 po no (encI O)
  t : Rd w 1 pt nt (encI T)
  r : Rd w 1 pr nr (encI R)
  v : Rd w 1 pv nv (encI V)
theorem R4.ext {w w' : World} {po : Option Addr} {no : Nat} {pt : Option Addr} {nt : Nat} {pr : Option Addr} {nr : Nat} {pv : Option Addr} {nv : Nat} {O T R V : List Int} (h : R4 w po no pt nt pr nr pv nv O T R V) (he : Ext w w') : R4 w' po no pt nt pr nr pv nv O T R V := ⟨h.o.ext he, h.t.ext he, h.r.ext he, h.v.ext he⟩
theorem exMk3 (w : World) : Calls Tryz.prog 73 #[.agg #[.int .i64 3, .slice (some ⟨w.heap.size, 0, none⟩) 3 3, .slice (some ⟨w.heap.size + 1, 0, none⟩) 3 3]] ((w.alloc (.cells #[.int .i64 0, .int .i64 1, .int .i64 0, .int .i64 2, .int .i64 2, .int .i64 1] 108)).alloc (.cells #[.slice none 0 0, .slice none 0 0, .slice none 0 0] 22)) fun e w' =>
    ∃ po no co pt nt ct pr nr cr pv nv cv, e = .returned (.tuple #[.agg #[.slice po no co, .slice pt nt ct, .slice pr nr cr, .slice pv nv cv], .int .i64 0]) ∧ R4 w' po no pt nt pr nr pv nv exO exT exR exV ∧ nt ≤ ct ∧ nv ≤ cv ∧ Ext w w' := by
  obtain ⟨a1, a2, a3⟩ := alloc2B w #[.int .i64 0, .int .i64 1, .int .i64 0, .int .i64 2, .int .i64 2, .int .i64 1] #[.slice none 0 0, .slice none 0 0, .slice none 0 0] 108 22
  generalize ((w.alloc (.cells #[.int .i64 0, .int .i64 1, .int .i64 0, .int .i64 2, .int .i64 2, .int .i64 1] 108)).alloc (.cells #[.slice none 0 0, .slice none 0 0, .slice none 0 0] 22)) = W at *
  have h1 : Rd W 2 (some ⟨w.heap.size, 0, none⟩) 3 (encE exE3) := a1.rd rfl rfl (by decide)
  have h2 : RdW W (some ⟨w.heap.size + 1, 0, none⟩) 3 [⟨none, 0, 0⟩, ⟨none, 0, 0⟩, ⟨none, 0, 0⟩] [[], [], []] := ⟨rfl, a2.rd rfl rfl (by decide), fun j hj => by
    have : j = 0 ∨ j = 1 ∨ j = 2 := by omega
    rcases this with rfl | rfl | rfl <;> exact Rd.nil _ _ _⟩
  have hz : SzW [[], [], []] := fun l hl s hs => by simp at hl; subst hl; cases hs
  refine (RMakeG_yes 3 _ 3 3 _ 3 3 exE3 _ _ W h1 h2 hz exI3).mono ?_
  rintro e w' ⟨v, rfl, ⟨po, no, co, pt, nt, ct, pr, nr, cr, pv, nv, cv, rfl, k1, k2, k3, k4, k5, k6, k7, k8⟩, hb⟩
  rw [exO_eq] at k1
  rw [exT_eq] at k2
  rw [exR_eq] at k3
  rw [exV_eq] at k4
  exact ⟨po, no, co, pt, nt, ct, pr, nr, cr, pv, nv, cv, rfl, ⟨k1, k2, k3, k4⟩, k6, k8, Ext.trans a3 hb⟩
theorem exMk0 (w : World) : Calls Tryz.prog 73 #[.agg #[.int .i64 0, .slice none 0 0, .slice none 0 0]] w fun e w' => e = .returned (.tuple #[.agg #[.slice none 0 0, .slice none 0 0, .slice none 0 0, .slice none 0 0], .int .i64 20]) ∧ Ext w w' :=
  RMakeG_no 0 none 0 0 none 0 0 [] [] [] w (Rd.nil _ _ _) ⟨rfl, Rd.nil _ _ _, fun j hj => by omega⟩ (fun l hl => nomatch hl) exI0
section
variable (po : Option Addr) (no co : Nat) (pt : Option Addr) (nt ct : Nat) (pr : Option Addr) (nr cr : Nat) (pv : Option Addr) (nv cv : Nat) (w : World) (h : R4 w po no pt nt pr nr pv nv exO exT exR exV) (hct : nt ≤ ct) (hcv : nv ≤ cv)
include h hct hcv
theorem exInG : Calls Tryz.prog 55 #[.agg #[.slice po no co, .slice pt nt ct, .slice pr nr cr, .slice pv nv cv], .int .i64 1] w fun e w' => ∃ q c, e = .returned (.tuple #[.slice q 2 c, .bool true]) ∧ Rd w' 1 q 2 (encI [0, 2]) ∧ Ext w w' := by
  have := InG po no co exO pt nt ct exT pr nr cr exR pv nv cv exV w 1 h.o h.t h.r h.v hct hcv
  rw [exCk, exIn.1, exIn.2] at this
  exact this.mono fun e w' ⟨q, c, h1, S⟩ => ⟨q, c, h1, S.rd 0 rfl (by decide), S.ext⟩
theorem exCkG : Calls Tryz.prog 56 #[.agg #[.slice po no co, .slice pt nt ct, .slice pr nr cr, .slice pv nv cv]] w fun e w' => e = .returned (.bool true) ∧ Ext w w' := by
  have := CheckR po no co exO pt nt ct exT pr nr cr exR pv nv cv exV w h.o h.t h.r h.v hct hcv
  rwa [exCk] at this
end
/-- the example's rows where they lie -/
theorem exWant4 (w : World) (cs : Array Value) : ∃ X, X = (((((w.alloc (.cells cs 41)).alloc (.cells #[.int .i64 0, .int .i64 2, .int .i64 2, .int .i64 3] 3)).alloc (.cells #[.int .i64 1, .int .i64 2, .int .i64 1] 3)).alloc (.cells #[.int .i64 0, .int .i64 0, .int .i64 2, .int .i64 3] 3)).alloc (.cells #[.int .i64 0, .int .i64 2, .int .i64 0] 3)) ∧
    Sep w X [.blk w.heap.size 41 cs] ∧ X.heap.size = w.heap.size + 1 + 1 + 1 + 1 + 1 ∧
    R4 X (some ⟨w.heap.size + 1, 0, none⟩) 4 (some ⟨w.heap.size + 1 + 1, 0, none⟩) 3 (some ⟨w.heap.size + 1 + 1 + 1, 0, none⟩) 4 (some ⟨w.heap.size + 1 + 1 + 1 + 1, 0, none⟩) 3 exO exT exR exV := by
  have S := (((((Sep.start w).al cs 41 w.heap.size rfl).al #[.int .i64 0, .int .i64 2, .int .i64 2, .int .i64 3] 3 (w.heap.size + 1) (by simp)).al #[.int .i64 1, .int .i64 2, .int .i64 1] 3 (w.heap.size + 1 + 1) (by simp)).al #[.int .i64 0, .int .i64 0, .int .i64 2, .int .i64 3] 3 (w.heap.size + 1 + 1 + 1) (by simp)).al #[.int .i64 0, .int .i64 2, .int .i64 0] 3 (w.heap.size + 1 + 1 + 1 + 1) (by simp)
  exact ⟨_, rfl, S.pick [4] (by decide) rfl, by simp, (S.blk 3 rfl).rd rfl rfl (by decide), (S.blk 2 rfl).rd rfl rfl (by decide), (S.blk 1 rfl).rd rfl rfl (by decide), (S.blk 0 rfl).rd rfl rfl (by decide)⟩
end Go.Proofs.YtkekibnhmfmhmaaGreat
/- The program's Edges of rows. -/
namespace Go.Proofs.YtkekibnhmfmhmaaGreat
open Go Go.RowKit Go.Shelf Go.Lib
attribute [local go_sem] Oper.semAt_some
def edgL (b : Bool) (O T : List Int) : List (Int × Int) := if b = true then pairs O T else []
def edgC (b : Bool) : Int := if b = true then 0 else 40
def edgPc (a b : Nat) (po : Option Addr) (no co : Nat) (pt : Option Addr) (nt ct : Nat) (cs : Array Value) (q : Option Addr) (c : Nat) (l : List (Int × Int)) : List Pc :=
  [.blk (b + 1 + 1) 39 #[.slice pt nt ct], .blk (b + 1) 39 #[.slice po no co], .blk b 109 #[.slice q l.length c], .blk a 41 cs, .own 108 2 q l.length c (encE l)]
theorem edgPc_cells (a b : Nat) (po : Option Addr) (no co : Nat) (pt : Option Addr) (nt ct : Nat) (cs : Array Value) (q : Option Addr) (c : Nat) (l : List (Int × Int)) : ∀ x ∈ edgPc a b po no co pt nt ct cs q c l, x.cells :=
  cells_all fun x hx => by simp [edgPc] at hx; rcases hx with h | h | h | h | h <;> first | exact .inl ⟨_, _, _, h⟩ | exact .inr ⟨_, _, _, _, _, _, h⟩
theorem pairs_len {O T : List Int} (h : OffOk O T) (h0 : nth O 0 = 0) : ∀ k, k < O.length → (pairsK O T k).length = (nth O k).toNat
  | 0, _ => by rw [h0]; rfl
  | k + 1, hk => by
    rw [pairsK_step, List.length_append, pairs_len h h0 k (by omega)]
    unfold rowX
    rw [List.length_map, rowL_len h hk]
    have := h.le k hk
    have := h.lo k (by omega)
    omega
end Go.Proofs.YtkekibnhmfmhmaaGreat
/- The reference's Edges and Own of rows. -/
namespace Go.Proofs.YtkekibnhmfmhmaaGreat
open Go Go.RowKit
def OwnQ (b : Nat) (no nt nr nv : Nat) (O T R V : List Int) (i : Nat) (v : Value) (W : World) : Prop :=
  match i with
  | 2 => ∃ q d, v = .slice q no d ∧ W.ownsRow b 3 1 (.slice q no d) no (encI O)
  | 5 => ∃ q d, v = .slice q nt d ∧ W.ownsRow b 3 1 (.slice q nt d) nt (encI T)
  | 8 => ∃ q d, v = .slice q nr d ∧ W.ownsRow b 3 1 (.slice q nr d) nr (encI R)
  | 11 => ∃ q d, v = .slice q nv d ∧ W.ownsRow b 3 1 (.slice q nv d) nv (encI V)
  | _ => True
theorem OwnQ_mono {b no nt nr nv : Nat} {O T R V : List Int} : ∀ i v W W', Ext W W' → OwnQ b no nt nr nv O T R V i v W → OwnQ b no nt nr nv O T R V i v W' := by
  intro i v W W' he h
  unfold OwnQ at *
  split at h <;> first | trivial | (obtain ⟨q, c, h1, h2⟩ := h; exact ⟨q, c, h1, he.own h2⟩)
set_option maxRecDepth 100000 in
set_option maxHeartbeats 4000000 in
theorem Own04 (po : Option Addr) (no co : Nat) (O : List Int) (pt : Option Addr) (nt ct : Nat) (T : List Int) (pr : Option Addr) (nr cr : Nat) (R : List Int) (pv : Option Addr) (nv cv : Nat) (V : List Int) (w : World) (hO : Rd w 1 po no (encI O)) (hT : Rd w 1 pt nt (encI T)) (hR : Rd w 1 pr nr (encI R)) (hV : Rd w 1 pv nv (encI V)) (b1 : no ≤ 100000) (b2 : nt ≤ 100000) (b3 : nr ≤ 100000) (b4 : nv ≤ 100000) :
    Calls Tryz.prog 18 #[.agg #[.slice po no co, .slice pt nt ct, .slice pr nr cr, .slice pv nv cv]] w fun e w' => ∃ qo do' qt dt qr dr qv dv, e = .returned (.agg #[.slice qo no do', .slice qt nt dt, .slice qr nr dr, .slice qv nv dv]) ∧ R4 w' qo no qt nt qr nr qv nv O T R V ∧ nt ≤ dt ∧ nv ≤ dv ∧ Ext w w' := by
  have HO := Lib.hid (fun W1 (h : Ext w W1) => OwnI01 po no co O W1 (hO.ext h) (by omega))
  have HT := Lib.hid (fun W1 (h : Ext w W1) => OwnI01 pt nt ct T W1 (hT.ext h) (by omega))
  have HR := Lib.hid (fun W1 (h : Ext w W1) => OwnI01 pr nr cr R W1 (hR.ext h) (by omega))
  have HV := Lib.hid (fun W1 (h : Ext w W1) => OwnI01 pv nv cv V W1 (hV.ext h) (by omega))
  have D1 := Lib.hid b1
  have D2 := Lib.hid b2
  have D3 := Lib.hid b3
  have D4 := Lib.hid b4
  obtain ⟨X, hX⟩ : ∃ X, X = (w.alloc (.cells #[.slice po no co, .slice pt nt ct, .slice pr nr cr, .slice pv nv cv] 41)).alloc (.cells #[.slice none 0 0, .slice none 0 0, .slice none 0 0, .slice none 0 0] 41) := ⟨_, rfl⟩
  have S0 := Lib.hid (hX ▸ (((Sep.start w).al #[.slice po no co, .slice pt nt ct, .slice pr nr cr, .slice pv nv cv] 41 w.heap.size rfl).al #[.slice none 0 0, .slice none 0 0, .slice none 0 0, .slice none 0 0] 41 (w.heap.size + 1) (by simp)) : Sep w X _)
  clear hO hT hR hV b1 b2 b3 b4
  go_enter Tryz.func18, Tryz.ntmps18
  go_wp2
  rw [← hX]
  clear hX
  have az := (S0.out.blk 1 rfl).lt; have a0 := (S0.out.blk 1 rfl).cell 0; have a1 := (S0.out.blk 1 rfl).cell 1; have a2 := (S0.out.blk 1 rfl).cell 2; have a3 := (S0.out.blk 1 rfl).cell 3
  have x0 := fun x : ExtOf X => x.ext.cell a0
  have x1 := fun x : ExtOf X => x.ext.cell a1
  have x2 := fun x : ExtOf X => x.ext.cell a2
  have x3 := fun x : ExtOf X => x.ext.cell a3
  refine wp_region_mix [true, true, false, true, true, false, true, true, false, true, true, false] (OwnQ X.heap.size no nt nr nv O T R V) (by kernel_rfl) (by kernel_rfl) (by kernel_rfl) OwnQ_mono ?_
  simp only [nfM]
  repeat (go_big_quiet_step ((fail)))
  refine wpQuiet_nil ⟨⟨fun vs W1 hE hd => ?_, fun vs W1 hE hd => ?_, fun vs W1 hE hd => ?_, fun vs W1 hE hd => ?_, trivial⟩, fun vs W1 hE hkn => ?_⟩
  · simp [putM, go_sem]
    exact (HO.out _ (Ext.trans S0.out.ext hE)).mono fun e w' ⟨q, d, h1, S⟩ => ⟨_, h1, ⟨q, d, rfl, own_base (S.own 0 rfl) hE.size⟩, S.ext⟩
  · simp [putM, go_sem]
    exact (HT.out _ (Ext.trans S0.out.ext hE)).mono fun e w' ⟨q, d, h1, S⟩ => ⟨_, h1, ⟨q, d, rfl, own_base (S.own 0 rfl) hE.size⟩, S.ext⟩
  · simp [putM, go_sem]
    exact (HR.out _ (Ext.trans S0.out.ext hE)).mono fun e w' ⟨q, d, h1, S⟩ => ⟨_, h1, ⟨q, d, rfl, own_base (S.own 0 rfl) hE.size⟩, S.ext⟩
  · simp [putM, go_sem]
    exact (HV.out _ (Ext.trans S0.out.ext hE)).mono fun e w' ⟨q, d, h1, S⟩ => ⟨_, h1, ⟨q, d, rfl, own_base (S.own 0 rfl) hE.size⟩, S.ext⟩
  obtain ⟨⟨qo, do', k1, r1⟩, ⟨qt, dt, k2, r2⟩, ⟨qr, dr, k3, r3⟩, ⟨qv, dv, k4, r4⟩, _⟩ := hkn
  have c2 := own_cap r2
  have c4 := own_cap r4
  have SY := Lib.hid (S0.out.call hE)
  have Y1 := Lib.hid (S0.out.fresh hE r1 (Nat.le_refl _))
  have Y2 := Lib.hid (S0.out.fresh hE r2 (Nat.le_refl _))
  have Y3 := Lib.hid (S0.out.fresh hE r3 (Nat.le_refl _))
  have Y4 := Lib.hid (S0.out.fresh hE r4 (Nat.le_refl _))
  simp only [putM, k1, k2, k3, k4, List.length_cons, List.length_nil, Nat.zero_add, Nat.reduceAdd, List.drop_succ_cons, List.drop_zero]
  clear x0 x1 x2 x3 k1 k2 k3 k4 hE r1 r2 r3 r4 a0 a1 a2 a3 az
  have uz := (SY.out.blk 0 rfl).lt; have u0 := (SY.out.blk 0 rfl).cell 0; have u1 := (SY.out.blk 0 rfl).cell 1; have u2 := (SY.out.blk 0 rfl).cell 2; have u3 := (SY.out.blk 0 rfl).cell 3
  have uf0 := (SY.out.blk 0 rfl).frozen 0
  have uf1 := (SY.out.blk 0 rfl).frozen 1
  have uf2 := (SY.out.blk 0 rfl).frozen 2
  have uf3 := (SY.out.blk 0 rfl).frozen 3
  go_wp2
  have S7 := (((SY.out.set 0 rfl 0 (.slice qo no do')).set 0 rfl 1 (.slice qt nt dt)).set 0 rfl 2 (.slice qr nr dr)).set 0 rfl 3 (.slice qv nv dv)
  have b0 := (S7.blk 0 rfl).cell 0
  have b1 := (S7.blk 0 rfl).cell 1
  have b2 := (S7.blk 0 rfl).cell 2
  have b3 := (S7.blk 0 rfl).cell 3
  refine bodyPost_ret (v := .agg #[.slice qo no do', .slice qt nt dt, .slice qr nr dr, .slice qv nv dv]) (by simp [results, Tryz.results18, go_sem, b0, b1, b2, b3, Tryz.sizeOf41, Tryz.isAgg41]) rfl ⟨qo, do', qt, dt, qr, dr, qv, dv, rfl, ?_, c2, c4, S7.ext⟩
  exact ⟨((((Y1.out.set 1 rfl 0 (.slice qo no do')).set 1 rfl 1 (.slice qt nt dt)).set 1 rfl 2 (.slice qr nr dr)).set 1 rfl 3 (.slice qv nv dv)).rd 0 rfl (by have := D1.out; omega), ((((Y2.out.set 1 rfl 0 (.slice qo no do')).set 1 rfl 1 (.slice qt nt dt)).set 1 rfl 2 (.slice qr nr dr)).set 1 rfl 3 (.slice qv nv dv)).rd 0 rfl (by have := D2.out; omega), ((((Y3.out.set 1 rfl 0 (.slice qo no do')).set 1 rfl 1 (.slice qt nt dt)).set 1 rfl 2 (.slice qr nr dr)).set 1 rfl 3 (.slice qv nv dv)).rd 0 rfl (by have := D3.out; omega), ((((Y4.out.set 1 rfl 0 (.slice qo no do')).set 1 rfl 1 (.slice qt nt dt)).set 1 rfl 2 (.slice qr nr dr)).set 1 rfl 3 (.slice qv nv dv)).rd 0 rfl (by have := D4.out; omega)⟩
set_option maxRecDepth 100000 in
set_option maxHeartbeats 8000000 in
theorem Edges04_yes (po : Option Addr) (no co : Nat) (O : List Int) (pt : Option Addr) (nt ct : Nat) (T : List Int) (pr : Option Addr) (nr cr : Nat) (R : List Int) (pv : Option Addr) (nv cv : Nat) (V : List Int) (w : World) (hO : Rd w 1 po no (encI O)) (hT : Rd w 1 pt nt (encI T)) (hR : Rd w 1 pr nr (encI R)) (hV : Rd w 1 pv nv (encI V)) (hct : nt ≤ ct) (hcv : nv ≤ cv) (hck : checkR O T R V = true) :
    Calls Tryz.prog 130 #[.agg #[.slice po no co, .slice pt nt ct, .slice pr nr cr, .slice pv nv cv]] w fun e w' => ∃ q c, e = .returned (.tuple #[.slice q (edgL true O T).length c, .int .i64 (edgC true)]) ∧ Sep w w' [.own 108 2 q (edgL true O T).length c (encE (edgL true O T))] := by
  obtain ⟨i0, hi0, hz0, hz1, hz2⟩ := info_parts inf34
  have S0 := Lib.hid ((Sep.start w).al #[.slice po no co, .slice pt nt ct, .slice pr nr cr, .slice pv nv cv] 41 w.heap.size rfl)
  have HC := Lib.hid (fun W1 (h : Ext w W1) => Check04 po no co O pt nt ct T pr nr cr R pv nv cv V W1 (hO.ext h) (hT.ext h) (hR.ext h) (hV.ext h) hct hcv)
  rw [hck] at HC
  have h1 := (checkR_half hck).2.2.1
  have r := offB_parts (halfB_off h1)
  have HOK := offOk_of (halfB_off h1)
  have l1 := hO.nI
  have l2 := hT.nI
  have n1 := hO.small
  have L1 := Lib.hid l1
  have hpk : Hid (∀ k, k < O.length - 1 → ∀ j, (pairsK O T k ++ (rowX O T k).take j).length ≤ 2000) := fun k hk j => by
    have h := (pairs_prefix (O := O) (T := T) (j := j) hk).length_le
    unfold pairs at h
    rw [pairs_len HOK r.2.2.2.1 (O.length - 1) (by omega), r.2.2.2.2.1] at h
    omega
  have HR1 := Lib.hid (fun W1 (h : Ext w W1) k (hk : k + 1 < O.length) => row04 po no co O pt nt ct T k W1 (hO.ext h) (hT.ext h) hct HOK hk (by omega))
  have no200 : no ≤ 201 := by omega
  have rl2000 : ∀ k, (rowL O T k).length ≤ 2000 := fun k => by unfold rowL; rw [List.length_take, List.length_drop]; omega
  have RL := Lib.hid rl2000
  clear hO hT hR hV hck h1 r HOK l1 l2 rl2000
  show Calls _ _ _ _ fun e w' => ∃ q c, e = .returned (.tuple #[.slice q (pairs O T).length c, .int .i64 0]) ∧ Sep w w' [.own 108 2 q (pairs O T).length c (encE (pairs O T))]
  go_enter Tryz.func130, Tryz.ntmps130
  go_wp2_with (go_at_call 57; go_must (refine (HC.out _ S0.out.ext).mono ?_; rintro e w1 ⟨rfl, hb⟩; have S1 := Lib.hid (S0.out.call hb); have az := (S1.out.blk 0 rfl).lt; have a0 := (S1.out.blk 0 rfl).cell 0; have a1 := (S1.out.blk 0 rfl).cell 1; have a2 := (S1.out.blk 0 rfl).cell 2; have a3 := (S1.out.blk 0 rfl).cell 3; clear hb))
  go_loopw [4, 5, 6, 7] (fun out v _ _ wr => ∃ (k : Nat) (q : Option Addr) (c : Nat), k ≤ no - 1 ∧ v = .int .i64 k ∧ out = .slice q (pairsK O T k).length c ∧ Sep w wr [.own 108 2 q (pairsK O T k).length c (encE (pairsK O T k)), .blk w.heap.size 41 #[.slice po no co, .slice pt nt ct, .slice pr nr cr, .slice pv nv cv]]) (fun _ v _ _ _ => no - 1 - (intOf v).toNat)
  case atStart => exact ⟨0, none, 0, Nat.zero_le _, rfl, rfl, S1.out.nilrow _ _⟩
  case round =>
    clear S0 S1 a0 a1 a2 a3 az
    obtain ⟨k, q, c, hk, rfl, rfl, S⟩ := hrel
    have az := (S.blk 1 rfl).lt; have a0 := (S.blk 1 rfl).cell 0; have a1 := (S.blk 1 rfl).cell 1; have a2 := (S.blk 1 rfl).cell 2; have a3 := (S.blk 1 rfl).cell 3
    by_cases hlt : k < no - 1
    · have hkO : k + 1 < O.length := by have := L1.out; omega
      have t1 : (k:Int) + 1 < no := by omega
      have t0 : (0:Int) ≤ k := by omega
      have HRk := Lib.hid (fun W1 (h : Ext w W1) => HR1.out W1 h k hkO)
      have rlk := RL.out k
      have hpl := Lib.hid (hpk.out k (by omega))
      have hst := Lib.hid (fun j (hj : j < (rowL O T k).length) => rowX_take (O := O) (T := T) hj)
      have hend : Hid ((rowX O T k).take (rowL O T k).length = rowX O T k) := by unfold Hid rowX; rw [List.take_of_length_le (by simp)]
      have hps := Lib.hid (pairsK_step O T k)
      generalize rowL O T k = l at *
      generalize rowX O T k = xs at *
      generalize pairsK O T k = ps at *
      have SH := Lib.hid S; clear S
      go_wp2_with (go_at_call 89; go_must (refine (HRk.out _ SH.out.ext).mono ?_; rintro e w3 ⟨q2, c2, rfl, Z⟩; have P1 := Lib.hid (SH.out.comp Z); clear Z))
      go_loopw [4, 7] (fun out i wr => ∃ (j : Nat) (q : Option Addr) (c : Nat), j ≤ l.length ∧ i = .int .i64 j ∧ out = .slice q (ps ++ xs.take j).length c ∧ Sep w wr [.own 3 1 q2 l.length c2 (encI l), .own 108 2 q (ps ++ xs.take j).length c (encE (ps ++ xs.take j)), .blk w.heap.size 41 #[.slice po no co, .slice pt nt ct, .slice pr nr cr, .slice pv nv cv]]) (fun _ i _ => l.length - (intOf i).toNat)
      case atStart => exact ⟨0, q, c, Nat.zero_le _, rfl, by simp, by simpa using P1.out⟩
      case round =>
        clear SH P1 a0 a1 a2 a3 az
        obtain ⟨j, q, c, hj, rfl, rfl, S⟩ := hrel
        have pq := (S.rd 0 rfl (by omega)).ptr
        by_cases hlj : j < l.length
        · have g1 := (S.rd 0 rfl (by omega)).cI hlj
          have h0 := hpl.out j
          have hs : Hid (ps ++ xs.take (j + 1) = (ps ++ xs.take j) ++ [((k:Int), nth l j)]) := by unfold Hid; rw [hst.out j hlj, List.append_assoc]
          generalize ps ++ xs.take j = ys at *
          generalize nth l j = x at *
          have t2 : (0:Int) ≤ j := by omega
          have t3 : (j:Int) < l.length := by omega
          have SH := Lib.hid S; clear S
          go_wp2_with (at_builtin; go_must (refine wpList_append_sep rfl _ _ _ rfl 108 i0 _ 2 16 Tryz.underlying109 hi0 hz0 hz1 hz2 rfl (by omega) (SH.out.junk _) 1 q ys.length c _ rfl rfl _ 1 1 _ rfl (Rd.one2 _ _ _ _) (one_encE _) (by omega) (by omega) ?_; intro q' c' w' S' hsz; have S5 := Lib.hid S'; clear S' hsz))
          go_roundw
          case rel => exact ⟨j + 1, q', c', by omega, by go_num, by rw [hs.out, List.length_append]; rfl, by rw [hs.out, List.length_append, encE_append]; exact S5.out⟩
          case measure => simp [intOf]; omega
        · obtain rfl : j = l.length := by omega
          rw [hend.out, ← hps.out] at S
          rw [hend.out, ← hps.out]
          have SH := Lib.hid S; clear S
          go_wp2
          go_roundw
          case rel => exact ⟨k + 1, q, c, by omega, by go_num, rfl, SH.out.pick [1, 2] (by decide) rfl⟩
          case measure => simp [intOf]; omega
    · have hend : pairsK O T k = pairs O T := by
        unfold pairs
        rw [show O.length - 1 = k by have := L1.out; omega]
      rw [hend] at S
      rw [hend]
      have t1 : decide ((k:Int) + 1 < no) = false := by simp; omega
      have SH := Lib.hid S; clear S
      clear hend
      go_wp2
      go_ret2
      exact ⟨q, c, rfl, SH.out.pick [0] (by decide) rfl⟩
theorem Edges04 (po : Option Addr) (no co : Nat) (O : List Int) (pt : Option Addr) (nt ct : Nat) (T : List Int) (pr : Option Addr) (nr cr : Nat) (R : List Int) (pv : Option Addr) (nv cv : Nat) (V : List Int) (w : World) (hO : Rd w 1 po no (encI O)) (hT : Rd w 1 pt nt (encI T)) (hR : Rd w 1 pr nr (encI R)) (hV : Rd w 1 pv nv (encI V)) (hct : nt ≤ ct) (hcv : nv ≤ cv) :
    Calls Tryz.prog 130 #[.agg #[.slice po no co, .slice pt nt ct, .slice pr nr cr, .slice pv nv cv]] w fun e w' => ∃ q c, e = .returned (.tuple #[.slice q (edgL (checkR O T R V) O T).length c, .int .i64 (edgC (checkR O T R V))]) ∧ Sep w w' [.own 108 2 q (edgL (checkR O T R V) O T).length c (encE (edgL (checkR O T R V) O T))] := by
  cases hck : checkR O T R V with
  | true => exact Edges04_yes po no co O pt nt ct T pr nr cr R pv nv cv V w hO hT hR hV hct hcv hck
  | false =>
    have S0 := Lib.hid ((Sep.start w).al #[.slice po no co, .slice pt nt ct, .slice pr nr cr, .slice pv nv cv] 41 w.heap.size rfl)
    have HC := Lib.hid (fun W1 (h : Ext w W1) => Check04 po no co O pt nt ct T pr nr cr R pv nv cv V W1 (hO.ext h) (hT.ext h) (hR.ext h) (hV.ext h) hct hcv)
    rw [hck] at HC
    clear hO hT hR hV hck
    show Calls _ _ _ _ fun e w' => ∃ q c, e = .returned (.tuple #[.slice q 0 c, .int .i64 40]) ∧ Sep w w' [.own 108 2 q 0 c []]
    go_enter Tryz.func130, Tryz.ntmps130
    go_wp2_with (go_at_call 57; go_must (refine (HC.out _ S0.out.ext).mono ?_; rintro e w1 ⟨rfl, hb⟩; have S1 := Lib.hid (S0.out.call hb); have az := (S1.out.blk 0 rfl).lt; have a0 := (S1.out.blk 0 rfl).cell 0; have a1 := (S1.out.blk 0 rfl).cell 1; have a2 := (S1.out.blk 0 rfl).cell 2; have a3 := (S1.out.blk 0 rfl).cell 3; clear hb))
    go_ret2
    exact ⟨none, 0, rfl, ((Sep.start w).call S1.out.ext).nilrow _ _⟩
end Go.Proofs.YtkekibnhmfmhmaaGreat
/- The reference's levels: edges in a direction, Levels. -/
namespace Go.Proofs.YtkekibnhmfmhmaaGreat
open Go Go.RowKit
def edgB (ck back : Bool) (O T : List Int) : List (Int × Int) := if ck = true then edgD back O T else []
theorem pairs_le {O T : List Int} (h : halfB O T = true) : (pairs O T).length ≤ 2000 := by
  obtain ⟨r1, r2, r3, r4, r5, r6⟩ := offB_parts (halfB_off h)
  unfold pairs
  rw [pairs_len (offOk_of (halfB_off h)) r4 _ (by omega), r5]; omega
theorem edgD_len {O T : List Int} (h : halfB O T = true) (back : Bool) : (edgD back O T).length ≤ 2000 := by
  cases back with
  | false => exact pairs_le h
  | true => show ((pairs O T).map swapE).length ≤ 2000; rw [List.length_map]; exact pairs_le h
set_option maxRecDepth 100000 in
set_option maxHeartbeats 4000000 in
theorem edges07 (po : Option Addr) (no co : Nat) (O : List Int) (pt : Option Addr) (nt ct : Nat) (T : List Int) (pr : Option Addr) (nr cr : Nat) (R : List Int) (pv : Option Addr) (nv cv : Nat) (V : List Int) (w : World) (back : Bool) (hO : Rd w 1 po no (encI O)) (hT : Rd w 1 pt nt (encI T)) (hR : Rd w 1 pr nr (encI R)) (hV : Rd w 1 pv nv (encI V)) (hct : nt ≤ ct) (hcv : nv ≤ cv) : Calls Tryz.prog 98 #[.agg #[.slice po no co, .slice pt nt ct, .slice pr nr cr, .slice pv nv cv], .bool back] w fun e w' => ∃ q c, e = .returned (.tuple #[.slice q (edgB (checkR O T R V) back O T).length c, .int .i64 (edgC (checkR O T R V))]) ∧ Sep w w' [.own 108 2 q (edgB (checkR O T R V) back O T).length c (encE (edgB (checkR O T R V) back O T))] := by
  obtain ⟨i0, hi0, hz0, hz1, hz2⟩ := info_parts inf34
  have S0 := Lib.hid ((Sep.start w).al #[.slice po no co, .slice pt nt ct, .slice pr nr cr, .slice pv nv cv] 41 w.heap.size rfl)
  have HE := Lib.hid (fun W1 (h : Ext w W1) => Edges04 po no co O pt nt ct T pr nr cr R pv nv cv V W1 (hO.ext h) (hT.ext h) (hR.ext h) (hV.ext h) hct hcv)
  clear hO hT hR hV
  cases hck : checkR O T R V with
  | false =>
    rw [hck] at HE
    show Calls _ _ _ _ fun e w' => ∃ q c, e = .returned (.tuple #[.slice q 0 c, .int .i64 40]) ∧ Sep w w' [.own 108 2 q 0 c []]
    have HE2 : Hid (∀ W1, Ext w W1 → Calls Tryz.prog 130 #[.agg #[.slice po no co, .slice pt nt ct, .slice pr nr cr, .slice pv nv cv]] W1 fun e w' => ∃ q c, e = .returned (.tuple #[.slice q 0 c, .int .i64 40]) ∧ Sep W1 w' [.own 108 2 q 0 c []]) := HE.out
    clear hck HE
    cases back <;>
    (go_enter Tryz.func98, Tryz.ntmps98
     go_wp2_with (go_at_call 130; go_must (refine (HE2.out _ S0.out.ext).mono ?_; rintro e w1 ⟨q, c, rfl, Z⟩; have S1 := Lib.hid (S0.out.comp Z); clear Z))
     go_ret2
     exact ⟨q, c, rfl, S1.out.pick [0] (by decide) rfl⟩)
  | true =>
    rw [hck] at HE
    have hl := pairs_le (checkR_half hck).2.2.1
    have HE2 : Hid (∀ W1, Ext w W1 → Calls Tryz.prog 130 #[.agg #[.slice po no co, .slice pt nt ct, .slice pr nr cr, .slice pv nv cv]] W1 fun e w' => ∃ q c, e = .returned (.tuple #[.slice q (pairs O T).length c, .int .i64 0]) ∧ Sep W1 w' [.own 108 2 q (pairs O T).length c (encE (pairs O T))]) := HE.out
    clear hck HE
    cases back with
    | false =>
      show Calls _ _ _ _ fun e w' => ∃ q c, e = .returned (.tuple #[.slice q (pairs O T).length c, .int .i64 0]) ∧ Sep w w' [.own 108 2 q (pairs O T).length c (encE (pairs O T))]
      generalize pairs O T = P at *
      go_enter Tryz.func98, Tryz.ntmps98
      go_wp2_with (go_at_call 130; go_must (refine (HE2.out _ S0.out.ext).mono ?_; rintro e w1 ⟨q, c, rfl, Z⟩; have S1 := Lib.hid (S0.out.comp Z); clear Z))
      go_ret2
      exact ⟨q, c, rfl, S1.out.pick [0] (by decide) rfl⟩
    | true =>
      show Calls _ _ _ _ fun e w' => ∃ q c, e = .returned (.tuple #[.slice q ((pairs O T).map swapE).length c, .int .i64 0]) ∧ Sep w w' [.own 108 2 q ((pairs O T).map swapE).length c (encE ((pairs O T).map swapE))]
      generalize pairs O T = P at *
      go_enter Tryz.func98, Tryz.ntmps98
      go_wp2_with (go_at_call 130; go_must (refine (HE2.out _ S0.out.ext).mono ?_; rintro e w1 ⟨q, c, rfl, Z⟩; have S1 := Lib.hid ((S0.out.comp Z).pick [0] (by decide) rfl); clear Z))
      go_loopw [8, 9] (fun out i wr => ∃ (k : Nat) (q2 : Option Addr) (c2 : Nat), k ≤ P.length ∧ i = .int .i64 k ∧ out = .slice q2 k c2 ∧ Sep w wr [.own 108 2 q2 k c2 (encE ((P.take k).map swapE)), .own 108 2 q P.length c (encE P)]) (fun _ i _ => P.length - (intOf i).toNat)
      case atStart => exact ⟨0, none, 0, Nat.zero_le _, rfl, rfl, S1.out.nilrow _ _⟩
      case round =>
        clear S0 S1
        obtain ⟨k, q2, c2, hk, rfl, rfl, S⟩ := hrel
        have pq := (S.rd 1 rfl (by omega)).ptr
        have pq2 := (S.rd 0 rfl (by omega)).ptr
        by_cases hlt : k < P.length
        · have e1 := (S.rd 1 rfl (by omega)).cE hlt
          have e2 := (S.rd 1 rfl (by omega)).cE2 hlt
          have d1 : (0:Int) ≤ k := by omega
          have d2 : (k:Int) < P.length := by omega
          have HT : Hid (encE ((P.take (k + 1)).map swapE) = encE ((P.take k).map swapE) ++ encE [swapE (nth P k)]) := by
            unfold Hid; rw [map_take_succ swapE P k hlt, encE_append]
          have SH := Lib.hid S; clear S
          go_wp2
          have xe1 := fun x : ExtOf wr => x.ext.cell e1
          have xe2 := fun x : ExtOf wr => x.ext.cell e2
          refine wp_region_mix [true, true, true, true, true, true, true, true, true, true, true, true, false] (fun _ v W => ∃ p, v = .slice p 1 1 ∧ Rd W 2 p 1 (encE [swapE (nth P k)])) (by kernel_rfl) (by kernel_rfl) (by kernel_rfl) (fun _ _ _ _ hE ⟨p, h1, h2⟩ => ⟨p, h1, h2.ext hE⟩) ?_
          simp only [nfM]
          repeat (go_big_quiet_step ((fail)))
          refine wpQuiet_nil ⟨⟨fun vs W1 hE hd => ?_, trivial⟩, fun vs W1 hE hkn => ?_⟩
          · simp [putM, execOp, go_sem]
            exact ⟨Rd.one2 _ _ _ _, Ext.alloc (Below.refl _ _) _⟩
          · obtain ⟨⟨p', hv, RA⟩, _⟩ := hkn
            have HRA := Lib.hid RA; clear RA
            have S1 := Lib.hid (SH.out.call hE)
            simp only [putM, hv, List.length_cons, List.length_nil, Nat.zero_add, Nat.reduceAdd, List.drop_succ_cons, List.drop_zero]
            clear xe1 xe2 hv
            go_wp2_with (at_builtin; go_must (refine wpList_append_sep rfl _ _ _ rfl 108 i0 _ 2 16 Tryz.underlying109 hi0 hz0 hz1 hz2 rfl (by omega) S1.out 0 q2 k c2 _ rfl rfl p' 1 1 _ rfl HRA.out (one_encE _) (by omega) (by omega) ?_; intro q' c' w' S' hsz; have S2 := Lib.hid S'; clear S'))
            go_roundw
            case rel => exact ⟨k + 1, q', c', by omega, by go_num, rfl, by rw [HT.out]; exact S2.out⟩
            case measure => simp [intOf]; omega
        · obtain rfl : k = P.length := by omega
          rw [List.take_length] at S
          have SH := Lib.hid S; clear S
          go_wp2
          go_ret2
          exact ⟨q2, c2, by rw [List.length_map]; rfl, by rw [List.length_map]; exact SH.out.pick [0] (by decide) rfl⟩
end Go.Proofs.YtkekibnhmfmhmaaGreat
