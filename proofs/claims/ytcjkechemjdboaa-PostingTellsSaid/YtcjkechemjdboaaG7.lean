import Derived.Test.YtcjkechemjdboaaG6
namespace Go.Proofs.Ytcjkechemjdboaa
open Go Go.RowKit Go.Shelf Go.Lib Go.Sort
attribute [local go_sem ↓] eqEdge neqEdge guardEdge
theorem grown_of_ext {w w' : World} (h : Ext w w') (row : Option Nat) : w.grownBy w' row := ⟨h.os, h.tape, h.output, h.size, fun k hk _ => h.block k hk⟩
theorem grown_trans {a b c : World} {g : Nat} (h : a.grownBy b (some g)) (k : b.grownBy c (some g)) : a.grownBy c (some g) :=
  ⟨k.os.trans h.os, k.tape.trans h.tape, k.output.trans h.output, Nat.le_trans h.size k.size, fun i hi hne => (k.block i (Nat.lt_of_lt_of_le hi h.size) hne).trans (h.block i hi hne)⟩
theorem dedup_small {α : Type} [DecidableEq α] [Inhabited α] (l : List α) (h : l.length < 2) : dedup l = l := by
  unfold dedup
  rw [compactUpTo_all _ _ (fun j hj => keeps_lt_one l.toArray j (by omega))]
  have := range_map_get l.toArray
  simpa using this
theorem dedup_le {α : Type} [DecidableEq α] [Inhabited α] (l : List α) : (dedup l).length ≤ l.length := by
  unfold dedup compactUpTo; rw [List.length_map]
  exact Nat.le_trans (List.length_filter_le _ _) (by simp)
theorem get_nth {α : Type} [Inhabited α] (l : List α) (j : Nat) (h : j < l.length) : l.toArray[j]! = nth l j := by
  rw [getElem!_pos _ j (by simpa using h), nth_eq h]; simp
theorem nth_drop {α : Type} [Inhabited α] (l : List α) (k j : Nat) : nth (l.drop k) j = nth l (k + j) := by
  simp [nth, List.getD_eq_getElem?_getD, List.getElem?_drop]
set_option maxRecDepth 100000 in
theorem CompactE0 (q : Option Addr) (n c : Nat) (w : World) (h : n < 2) : Calls Try.prog 110 #[.slice q n c] w fun e w' => e = .returned (.slice q n c) ∧ w' = w := by
  go_enter Try.func110, Try.ntmps110
  go_wp2
  go_ret
  exact ⟨rfl, rfl⟩
theorem adr_ne (q : Option Addr) {i j : Nat} (h : i ≠ j) : adr q i ≠ adr q j := by
  intro e; unfold adr at e; injection e with _ e; omega
theorem own_set2 {w : World} {base g n c k : Nat} {q : Option Addr} {dk : List (Int × Int)} (hq : q = some ⟨g, 0, none⟩) (ho : w.ownsRow base 71 2 (.slice q n c) n (encE dk)) (hn : n ≤ 100000) (hk : k < n) (hd : dk.length = n) (x : Int × Int) :
    ((w.setCell (adr q (k * 2)) (.int .i64 x.1)).setCell ⟨(adr q (k * 2)).block, (adr q (k * 2)).off + 1, none⟩ (.int .i64 x.2)).ownsRow base 71 2 (.slice q n c) n (encE (dk.set k x)) ∧
      w.grownBy ((w.setCell (adr q (k * 2)) (.int .i64 x.1)).setCell ⟨(adr q (k * 2)).block, (adr q (k * 2)).off + 1, none⟩ (.int .i64 x.2)) (blkOf q) := by
  subst hq
  have h := own_setCells ho (by omega) (k * 2) [.int .i64 x.1, .int .i64 x.2] (by simp; omega)
  simp only [List.length_cons, List.length_nil] at h
  rw [show k * 2 + (0 + 1 + 1) = k * 2 + 2 from rfl, encE_set dk k x (by omega)] at h
  have e : w.setCells g (k * 2) [.int .i64 x.1, .int .i64 x.2] = (w.setCell (adr (some ⟨g, 0, none⟩) (k * 2)) (.int .i64 x.1)).setCell ⟨(adr (some ⟨g, 0, none⟩) (k * 2)).block, (adr (some ⟨g, 0, none⟩) (k * 2)).off + 1, none⟩ (.int .i64 x.2) := by
    rw [adr_some, Nat.zero_add]; rfl
  rw [e] at h
  exact h
theorem ret_slice {p : Option Addr} {n m c : Nat} (h : n = m) : Ending.returned (.slice p n c) = .returned (.slice p m c) := by rw [h]
theorem clear_own {w : World} {base g n c k : Nat} {q : Option Addr} {dk : List (Int × Int)} (hq : q = some ⟨g, 0, none⟩) (ho : w.ownsRow base 71 2 (.slice q n c) n (encE dk)) (hn : n ≤ 100000) (hk : k < n) (hd : dk.length = n) :
    ∃ W', (∀ ty, (Builtin.clear_ #[22] ty #[.slice (cutp q c k 2) (n - k) (c - k)]).run Try.prog w = .ok (.tuple #[]) W') ∧ W'.ownsRow base 71 2 (.slice q k c) k (encE (dk.take k)) ∧ w.grownBy W' (blkOf q) := by
  subst hq
  have hcap := own_cap ho
  have hcut : cutp (some ⟨g, 0, none⟩) c k 2 = some ⟨g, k * 2, none⟩ := by unfold cutp; rw [if_neg (by omega)]; simp [Addr.add_lit]
  have r := Rd.of_own ho (by omega)
  have hc := run_clear_E w g (k * 2) (n - k) (c - k) (by omega) (fun j hj => by have := r.cells (k * 2 + j) (by omega); rw [adr_some, Nat.zero_add] at this; rw [this]; rfl) (fun j _ => own_free ho _)
  have hz : (Builtin.zeroCells #[.int .i64 0, .int .i64 0] (n - k)).toList.length = (n - k) * 2 := by simp [Builtin.zeroCells]
  have h := own_setCells ho (by omega) (k * 2) (Builtin.zeroCells #[.int .i64 0, .int .i64 0] (n - k)).toList (by rw [hz]; omega)
  refine ⟨_, fun ty => by rw [hcut]; exact hc ty, ?_, h.2⟩
  have h1 := h.1
  rw [List.append_assoc, encE_take] at h1
  exact own_take h1 (by rw [encE_len, List.length_take]; omega) (by omega)
set_option maxRecDepth 100000 in
set_option maxHeartbeats 2000000 in
theorem CompactE2 (base g n c : Nat) (l : List (Int × Int)) (w : World) (ho : w.ownsRow base 71 2 (.slice (some ⟨g, 0, none⟩) n c) n (encE l)) (hn : n ≤ 100000) (h2 : ¬ n < 2) :
    Calls Try.prog 110 #[.slice (some ⟨g, 0, none⟩) n c] w fun e w' => e = .returned (.slice (some ⟨g, 0, none⟩) (dedup l).length c) ∧ w'.ownsRow base 71 2 (.slice (some ⟨g, 0, none⟩) (dedup l).length c) (dedup l).length (encE (dedup l)) ∧ w.grownBy w' (some g) := by
  have hl : n = l.length := by have := ho.1; rw [encE_len] at this; omega
  have hcap := own_cap ho
  obtain ⟨q, hq⟩ : ∃ q, q = (some ⟨g, 0, none⟩ : Option Addr) := ⟨_, rfl⟩
  rw [← hq] at ho ⊢
  have p1 : SlP q n := by rw [hq]; exact .inr ⟨_, _, rfl⟩
  have HQ := Lib.hid hq; clear hq
  have HL := Lib.hid hl; clear hl
  have HO := Lib.hid ho; clear ho
  have FIN : Hid ((∀ j, j < n → keeps l.toArray j = true) → dedup l = l) := by
    intro hall
    unfold dedup
    rw [compactUpTo_all _ _ (fun j hj => hall j (by rw [HL.out]; exact hj))]
    have := range_map_get l.toArray
    simpa using this
  go_enter Try.func110, Try.ntmps110
  go_wp2
  go_loopw [3, 4, 5] (fun i _ _ wr => ∃ k : Nat, 1 ≤ k ∧ k ≤ n ∧ i = .int .i64 k ∧ (∀ j, j < k → keeps l.toArray j = true) ∧ Ext w wr) (fun i _ _ _ => n - (intOf i).toNat)
  case atStart => exact ⟨1, Nat.le_refl _, by omega, rfl, keeps_lt_one _, Below.refl _ _⟩
  case round =>
    obtain ⟨k, hk1, hk, rfl, hall, hb⟩ := hrel
    have HA := Lib.hid hall; clear hall
    have HB := Lib.hid hb; clear hb
    have OW := Lib.hid (HB.out.own HO.out)
    by_cases hlt : k < n
    · have R := Lib.hid (Rd.of_own OW.out (by omega))
      have g1 := R.out.cE hlt
      have g2 := R.out.cE2 hlt
      have g3 := R.out.cE (k := k - 1) (by omega)
      have g4 := R.out.cE2 (k := k - 1) (by omega)
      have d1 : (0:Int) ≤ k := by omega
      have d2 : (k:Int) < n := by omega
      have d3 : (0:Int) ≤ (k:Int) - 1 := by omega
      have d4 : (1:Int) ≤ (k:Int) := by omega
      have d5 : (k:Int) - 1 < n := by omega
      have d6 : ((k:Int) - 1).toNat = k - 1 := by omega
      have A1 : Hid (l.toArray[k]! = nth l k) := get_nth l k (by rw [← HL.out]; exact hlt)
      have A2 : Hid (l.toArray[k - 1]! = nth l (k - 1)) := get_nth l (k - 1) (by rw [← HL.out]; omega)
      by_cases hdup : nth l k = nth l (k - 1)
      · have hq1 : eqE (nth l k) (nth l (k - 1)) = true := by simp [eqE, hdup]
        have HI0 : Hid (CompInv l.toArray (k + 1) k l.toArray) := CompInv.start HA.out (keeps_neg (by omega) (by rw [A1.out, A2.out]; exact hdup))
        clear hdup
        go_wp2
        go_quiet (fail)
        go_wp2
        clear g1 g2 g3 g4
        obtain ⟨wo, hwo⟩ : ∃ wo : World, wo = wr.drewN nq := ⟨_, rfl⟩
        rw [← hwo]
        have OW2 : Hid (wo.ownsRow base 71 2 (.slice q n c) n (encE l)) := by rw [hwo]; exact ((Ext.refl wr).drewN nq).own OW.out
        have GR : Hid (w.grownBy wo (blkOf q)) := by rw [hwo]; exact grown_of_ext (HB.out.drewN nq) _
        clear hwo OW R HB
        go_loopw [3, 5] (fun i i2 wr => ∃ (kk k2 : Nat) (dk : List (Int × Int)), i = .int .i64 kk ∧ i2 = .int .i64 k2 ∧ 1 ≤ k2 ∧ k + k2 ≤ n ∧ CompInv l.toArray (k + k2) kk dk.toArray ∧ wr.ownsRow base 71 2 (.slice q n c) n (encE dk) ∧ w.grownBy wr (blkOf q)) (fun _ i2 _ => n - (intOf i2).toNat)
        case atStart => exact ⟨k, 1, l, rfl, rfl, Nat.le_refl _, by omega, HI0.out, OW2.out, GR.out⟩
        case round =>
          clear OW2 GR HI0
          obtain ⟨kk, k2, dk, rfl, rfl, h1, hle, hI, OW, GR⟩ := hrel
          have hkk := hI.lt
          have hds : dk.length = n := by have := hI.size; simp at this; rw [this, HL.out]
          have HI := Lib.hid hI; clear hI
          have OW0 := Lib.hid OW; clear OW
          have GR0 := Lib.hid GR; clear GR
          have HD := Lib.hid hds; clear hds
          have R := Lib.hid (Rd.of_own OW0.out (by omega))
          have hkle : kk < n := by omega
          by_cases hlt2 : k + k2 < n
          · have RC : Rd wr 2 (cutp q c k 2) (n - k) (encE (dk.drop k)) := by
              have := R.out.cut hk (Nat.le_refl n) hcap
              rwa [encE_drop, List.take_of_length_le (by rw [encE_len, List.length_drop, HD.out]; omega)] at this
            have p5 := RC.ptr
            have RC0 := Lib.hid RC; clear RC
            have g1 := RC0.out.cE (k := k2) (by omega)
            have g2 := RC0.out.cE2 (k := k2) (by omega)
            have g3 := RC0.out.cE (k := k2 - 1) (by omega)
            have g4 := RC0.out.cE2 (k := k2 - 1) (by omega)
            have s1 := R.out.cE hkle
            have s2 := R.out.cE2 hkle
            have s3 : wr.frozen? (adr q (kk * 2)) = false := by have := own_free (by have := OW0.out; rwa [HQ.out] at this) (kk * 2); rw [HQ.out, adr_some, Nat.zero_add]; exact this
            have s4 : wr.frozen? (adr q (kk * 2 + 1)) = false := by have := own_free (by have := OW0.out; rwa [HQ.out] at this) (kk * 2 + 1); rw [HQ.out, adr_some, Nat.zero_add]; exact this
            have s5 : adr q (kk * 2) ≠ adr q (kk * 2 + 1) := adr_ne q (by omega)
            have s6 : adr q (kk * 2 + 1) ≠ adr q (kk * 2) := adr_ne q (by omega)
            have s7 : wr.cell? ⟨(adr q (kk * 2)).block, (adr q (kk * 2)).off + 1, none⟩ = some (.int .i64 (nth dk kk).2) := s2
            have s8 : wr.frozen? ⟨(adr q (kk * 2)).block, (adr q (kk * 2)).off + 1, none⟩ = false := s4
            have s9 : adr q (kk * 2) ≠ ⟨(adr q (kk * 2)).block, (adr q (kk * 2)).off + 1, none⟩ := s5
            have e1 : nth (dk.drop k) k2 = nth l (k + k2) := by rw [nth_drop, ← get_nth dk _ (by rw [HD.out]; exact hlt2), HI.out.high _ (by omega), get_nth l _ (by rw [← HL.out]; exact hlt2)]
            have e2 : nth (dk.drop k) (k2 - 1) = nth l (k + k2 - 1) := by rw [nth_drop, show k + (k2 - 1) = k + k2 - 1 from by omega, ← get_nth dk _ (by rw [HD.out]; omega), HI.out.high _ (by omega), get_nth l _ (by rw [← HL.out]; omega)]
            rw [e1] at g1 g2
            rw [e2] at g3 g4
            have B1 : Hid (l.toArray[k + k2]! = nth l (k + k2)) := get_nth l _ (by rw [← HL.out]; exact hlt2)
            have B2 : Hid (l.toArray[k + k2 - 1]! = nth l (k + k2 - 1)) := get_nth l _ (by rw [← HL.out]; omega)
            clear e1 e2
            have c1 : (0:Int) ≤ k2 := by omega
            have c2 : (k2:Int) < (n - k : Nat) := by omega
            have c3 : (0:Int) ≤ (k2:Int) - 1 := by omega
            have c4 : (1:Int) ≤ (k2:Int) := by omega
            have c5 : (k2:Int) - 1 < (n - k : Nat) := by omega
            have c6 : ((k2:Int) - 1).toNat = k2 - 1 := by omega
            have c7 : k2 < n - k := by omega
            generalize hu : nth l (k + k2) = u at g1 g2 B1
            generalize hv : nth l (k + k2 - 1) = v at g3 g4 B2
            clear hu hv
            by_cases huv : u = v
            · have hq2 : eqE u v = true := by simp [eqE, huv]
              have HUV := Lib.hid huv; clear huv
              go_wp2
              go_quiet (fail)
              go_wp2
              go_roundw
              case rel => exact ⟨kk, k2 + 1, dk, rfl, by go_num, by omega, by omega, HI.out.skip (keeps_neg (by omega) (by rw [B1.out, B2.out]; exact HUV.out)), ((Ext.refl wr).drewN _).own OW0.out, by have := grown_trans (g := g) (by have := GR0.out; rwa [HQ.out] at this) (grown_of_ext ((Ext.refl wr).drewN nq) (some g)); rw [HQ.out]; exact this⟩
              case measure => simp [intOf]; omega
            · have hq2 : eqE u v = false := by simp [eqE, huv]
              have HUV := Lib.hid huv; clear huv
              go_wp2
              go_quiet (fail)
              go_wp2
              have OS := Lib.hid (own_set2 HQ.out (((Ext.refl wr).drewN nq).own OW0.out) hn hkle HD.out u)
              go_roundw
              case rel => exact ⟨kk + 1, k2 + 1, dk.set kk u, by go_num, by go_num, by omega, by omega, by have := HI.out.keep (by have := HL.out; simp; omega) (keeps_pos (by rw [B1.out, B2.out]; exact HUV.out)); rw [B1.out] at this; rw [← Nat.add_assoc]; simpa using this, OS.out.1, by have h1 := grown_trans (g := g) (by have := GR0.out; rwa [HQ.out] at this) (grown_of_ext ((Ext.refl wr).drewN nq) (some g)); have h2 := OS.out.2; rw [HQ.out] at h2 ⊢; exact grown_trans h1 h2⟩
              case measure => simp [intOf]; omega
          · have hend : k + k2 = n := by omega
            obtain ⟨W', hcl, hown, hgr⟩ := clear_own HQ.out OW0.out hn hkle HD.out
            have hcl2 : ∀ ty, (Builtin.clear_ #[22] ty #[.slice (Option.map (fun x => x.add (kk * 2)) q) (n - kk) (c - kk)]).run Try.prog wr = .ok (.tuple #[]) W' := fun ty => by have := hcl ty; unfold cutp at this; rw [if_neg (by omega)] at this; exact this
            have HOW := Lib.hid hown; clear hown
            have HGR := Lib.hid hgr; clear hgr
            have HDD : Hid (dk.take kk = dedup l ∧ (dedup l).length = kk) := by
              have hI := HI.out
              rw [hend] at hI
              have e1 : compactUpTo l.toArray n = dedup l := by unfold dedup; rw [HL.out]
              have e2 := hI.len
              have e3 := hI.low
              rw [e1] at e2 e3
              refine ⟨?_, e2⟩
              apply List.ext_getElem?
              intro i
              rw [List.getElem?_take]
              by_cases hi : i < kk
              · rw [if_pos hi, e3 i hi, getElem!_pos _ i (by simp; rw [HD.out]; omega)]
                rw [List.getElem?_eq_getElem (by rw [HD.out]; omega)]; simp
              · rw [if_neg hi, List.getElem?_eq_none (by omega)]
            clear hend
            go_wp2
            go_ret
            exact ⟨ret_slice HDD.out.2.symm, by rw [HDD.out.2, ← HDD.out.1]; exact HOW.out, by have h1 := GR0.out; have h2 := HGR.out; rw [HQ.out] at h1 h2; exact grown_trans h1 h2⟩
      · have hq1 : eqE (nth l k) (nth l (k - 1)) = false := by simp [eqE, hdup]
        have HK := Lib.hid (keeps_pos (d := l.toArray) (m := k) (by rw [A1.out, A2.out]; exact hdup))
        clear hdup
        go_wp2
        go_quiet (fail)
        go_wp2
        go_roundw
        case rel => exact ⟨k + 1, by omega, by omega, by go_num, fun j hj => by
          by_cases e : j = k
          · subst e; exact HK.out
          · exact HA.out j (by omega), HB.out.drewN _⟩
        case measure => simp [intOf]; omega
    · have hkn : k = n := by omega
      subst hkn
      have HF := Lib.hid (FIN.out HA.out)
      go_wp2
      go_ret
      exact ⟨ret_slice (by rw [HF.out]; exact HL.out), by rw [HF.out, ← HL.out]; exact OW.out, by have := grown_of_ext HB.out (some g); exact this⟩
theorem CompactE (base : Nat) (q : Option Addr) (n c : Nat) (l : List (Int × Int)) (w : World) (ho : w.ownsRow base 71 2 (.slice q n c) n (encE l)) (hn : n ≤ 100000) (hb : base ≤ w.heap.size) :
    Calls Try.prog 110 #[.slice q n c] w fun e w' => e = .returned (.slice q (dedup l).length c) ∧ w'.ownsRow base 71 2 (.slice q (dedup l).length c) (dedup l).length (encE (dedup l)) ∧ w.grownBy w' (blkOf q) ∧ Below base w w' := by
  have hl : n = l.length := by have := ho.1; rw [encE_len] at this; omega
  by_cases h2 : n < 2
  · refine (CompactE0 q n c w h2).mono ?_
    rintro e w' ⟨he, rfl⟩
    rw [dedup_small l (by omega), ← hl]
    exact ⟨he, ho, World.grownBy.refl _ _, Below.refl _ _⟩
  · obtain ⟨g, hq, hg⟩ := own_block ho (by omega)
    subst hq
    exact (CompactE2 base g n c l w ho hn h2).mono fun e w' ⟨a, b, d⟩ => ⟨a, b, d, Below.grown (Below.refl _ _) d hb (fun k hk => (ho.lt k hk).1)⟩
end Go.Proofs.Ytcjkechemjdboaa
