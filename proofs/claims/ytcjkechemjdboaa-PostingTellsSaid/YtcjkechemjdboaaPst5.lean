/- Rows of postings that are read; cloning numbers; the postings of a word. -/
import Derived.Test.YtcjkechemjdboaaRI
import Derived.Test.YtcjkechemjdboaaG8
namespace Go.Proofs.Ytcjkechemjdboaa
open Go Go.RowKit Go.Maps
abbrev Po := ByteArray × List Int
/-- a slice of postings reads L -/
structure RdP (w : World) (p : Option Addr) (n : Nat) (hs : List Hd) (L : List Po) : Prop where
  hn : n = L.length
  ptr : SlP p n
  small : n ≤ 9223372036854775807
  c1 : ∀ k, k < n → w.cell? (adr p (k * 2)) = some (.string (nth L k).1)
  c2 : ∀ k, k < n → w.cell? (adr p (k * 2 + 1)) = some (.slice (nth hs k).p (nth hs k).n (nth hs k).c)
  each : ∀ k, k < n → Rd w 1 (nth hs k).p (nth hs k).n (encI (nth L k).2)
theorem RdP.ext {w w' : World} {p : Option Addr} {n : Nat} {hs : List Hd} {L : List Po} (h : RdP w p n hs L) (he : Ext w w') : RdP w' p n hs L :=
  ⟨h.hn, h.ptr, h.small, fun k hk => he.cell (h.c1 k hk), fun k hk => he.cell (h.c2 k hk), fun k hk => (h.each k hk).ext he⟩
/-- all numbers are the machine's, and not too many -/
def PoOk (L : List Po) : Prop := ∀ p ∈ L, p.2.length ≤ 1000 ∧ ∀ x ∈ p.2, I64 x
theorem PoOk.at {L : List Po} (h : PoOk L) {k : Nat} (hk : k < L.length) : (nth L k).2.length ≤ 1000 ∧ ∀ x ∈ (nth L k).2, I64 x := h _ (by rw [nth_eq hk]; exact List.getElem_mem _)
/-- the places of a word -/
def findL : List Po → ByteArray → List Int
  | [], _ => []
  | p :: L, s => if p.1 = s then p.2 else findL L s
theorem findL_drop {L : List Po} {s : ByteArray} : ∀ (k : Nat), (∀ j, j < k → (nth L j).1 ≠ s) → k ≤ L.length → findL L s = findL (L.drop k) s := by
  induction L with
  | nil => intro k _ _; simp
  | cons p L ih =>
    intro k h hk
    cases k with
    | zero => rfl
    | succ k =>
      have h0 : p.1 ≠ s := h 0 (by omega)
      rw [List.drop_succ_cons, findL, if_neg h0]
      exact ih k (fun j hj => h (j + 1) (by omega)) (by simpa using hk)
theorem findL_at {L : List Po} {s : ByteArray} {k : Nat} (h : ∀ j, j < k → (nth L j).1 ≠ s) (hk : k < L.length) (he : (nth L k).1 = s) : findL L s = (nth L k).2 := by
  rw [findL_drop k h (by omega), drop_nth L k hk, findL, if_pos he]
theorem findL_no {L : List Po} {s : ByteArray} {k : Nat} (h : ∀ j, j < k → (nth L j).1 ≠ s) (hk : ¬ k < L.length) (hk2 : k ≤ L.length) : findL L s = [] := by
  rw [findL_drop k h hk2, List.drop_of_length_le (by omega), findL]
theorem findL_ok {L : List Po} (h : PoOk L) (s : ByteArray) : (findL L s).length ≤ 1000 ∧ ∀ x ∈ findL L s, I64 x := by
  induction L with
  | nil => exact ⟨by simp [findL], fun x hx => by cases hx⟩
  | cons p L ih =>
    unfold findL
    split
    · exact h p (by simp)
    · exact ih fun q hq => h q (by simp [hq])
theorem Sep.of_own {w w' : World} {e : TypeId} {size : Nat} {q : Option Addr} {n c : Nat} {xs : List Value} (he : Ext w w') (ho : w'.ownsRow w.heap.size e size (.slice q n c) n xs) : Sep w w' [.own e size q n c xs] :=
  (Sep.start w).fresh he ho (Nat.le_refl _)
theorem CloneI (p : Option Addr) (n c : Nat) (l : List Int) (w : World) (hl : Rd w 1 p n (encI l)) (hn : n ≤ 100000) :
    Calls Try.prog 68 #[.slice p n c] w fun e w' => ∃ q c', e = .returned (.slice q n c') ∧ Sep w w' [.own 3 1 q n c' (encI l)] := by
  obtain ⟨i0, hi0, hz0, hz1, hz2⟩ := info_parts infI
  have hp := hl.ptr
  cases p with
  | none =>
    have h0 : n = 0 := by rcases hp with h | ⟨_, _, h⟩; exact h; cases h
    subst h0
    have hnil : encI l = [] := List.eq_nil_of_length_eq_zero (by have := hl.len; simpa using this)
    rw [hnil]
    clear hl hp hnil
    have hr := fun W => Lib.run_eql_slice_nil (P := Try.prog) W 38 3 none 0 c 0 0 Try.underlying38
    go_enter Try.func68, Try.ntmps68
    go_wp2
    go_ret
    exact ⟨none, 0, rfl, (Sep.start w).nilrow _ _⟩
  | some ad =>
    have hr := fun W => Lib.run_eql_slice_nil (P := Try.prog) W 38 3 (some ad) n c 0 0 Try.underlying38
    have HL := Lib.hid hl; clear hl hp
    go_enter Try.func68, Try.ntmps68
    go_wp2_with (at_builtin; refine wpList_append_rd rfl _ _ _ rfl w.heap.size 3 i0 _ 1 8 Try.underlying38 hi0 hz0 hz1 hz2 rfl (by omega) (some ⟨w.heap.size, 0, none⟩) 0 0 [] rfl (World.ownsRow_made w #[] 0 (Nat.le_refl _) (by simp [maxLen]) rfl) (some ad) n c (encI l) rfl (HL.out.ext (Ext.alloc (Below.refl _ _) _)) (one_encI l) (by omega) (by omega) (by simp) ?_; intro q' c' w1 hown hg hat hb)
    go_ret
    simp only [Nat.zero_add, List.nil_append] at hown
    exact ⟨q', c', rfl, Sep.of_own (Below.trans ((Below.refl _ _).alloc (Nat.le_refl _) _) hb) hown⟩
theorem OwnI01 (p : Option Addr) (n c : Nat) (l : List Int) (w : World) (hl : Rd w 1 p n (encI l)) (hn : n ≤ 1000000) :
    Calls Try.prog 66 #[.slice p n c] w fun e w' => ∃ q c', e = .returned (.slice q n c') ∧ Sep w w' [.own 3 1 q n c' (encI l)] := by
  obtain ⟨i0, hi0, hz0, hz1, hz2⟩ := info_parts infI
  have HL := Lib.hid hl; clear hl
  have S0 := Lib.hid ((Sep.start w).nilrow 3 1)
  go_enter Try.func66, Try.ntmps66
  go_wp2_with (at_builtin; go_must (refine wpList_append_sep rfl _ _ _ rfl 3 i0 _ 1 8 Try.underlying38 hi0 hz0 hz1 hz2 rfl (by omega) S0.out 0 none 0 0 [] rfl rfl p n c (encI l) rfl HL.out (one_encI l) (by omega) (by omega) ?_; intro q' c' w1 S1 hsz; have S2 := Lib.hid S1; clear S1 hsz))
  go_ret
  exact ⟨q', c', rfl, by have := S2.out; rw [Nat.zero_add, List.nil_append] at this; exact this⟩
set_option maxHeartbeats 1000000 in
theorem FindG (p : Option Addr) (n c : Nat) (hs : List Hd) (L : List Po) (s : ByteArray) (w : World) (hL : RdP w p n hs L) (hok : PoOk L) :
    Calls Try.prog 30 #[.slice p n c, .string s] w fun e w' => ∃ q c, e = .returned (.slice q (findL L s).length c) ∧ Sep w w' [.own 3 1 q (findL L s).length c (encI (findL L s))] := by
  have p1 := hL.ptr
  have n1 := hL.small
  have l1 := hL.hn
  have HL := Lib.hid hL; clear hL
  have L1 := Lib.hid l1; clear l1
  have HOK := Lib.hid hok; clear hok
  go_enter Try.func30, Try.ntmps30
  go_wp2
  go_loopw [6, 9] (fun _ i wr => ∃ k : Nat, k ≤ n ∧ i = .int .i64 k ∧ (∀ j, j < k → (nth L j).1 ≠ s) ∧ Sep w wr []) (fun _ i _ => n - (intOf i).toNat)
  case atStart => exact ⟨0, Nat.zero_le _, rfl, fun j hj => by omega, Sep.start w⟩
  case round =>
    obtain ⟨k, hk, rfl, ha, S⟩ := hrel
    have HA := Lib.hid ha; clear ha
    by_cases hlt : k < n
    · have g1 := S.ext.cell (HL.out.c1 k hlt)
      have g2 := S.ext.cell (HL.out.c2 k hlt)
      have RE := Lib.hid ((HL.out.each k hlt).ext S.ext)
      have SH := Lib.hid S; clear S
      have d1 : (0:Int) ≤ k := by omega
      have d2 : (k:Int) < n := by omega
      have hb0 := Lib.hid (str_beq (nth L k).1 s)
      have hlen : (nth hs k).n ≤ 1000 := by rw [RE.out.nI]; exact (HOK.out.at (by rw [← L1.out]; exact hlt)).1
      by_cases he : (nth L k).1 = s
      · have hq2 : ((nth L k).1.toList == s.toList) = true := by rw [hb0.out]; simp [he]
        have HF := Lib.hid (findL_at HA.out (by rw [← L1.out]; exact hlt) he)
        clear he
        go_wp2_with (go_at_call 68; go_must (refine (CloneI _ _ _ _ _ (RE.out.ext (Ext.alloc (Below.refl _ _) _)) (by omega)).mono ?_; rintro e w2 ⟨q, c', rfl, S1⟩; have S2 := Lib.hid ((SH.out.junk _).comp S1); clear S1))
        go_ret
        rw [HF.out]
        have h3 := RE.out.nI
        exact ⟨q, c', ret_slc h3, by rw [← h3]; exact S2.out⟩
      · have hq2 : ((nth L k).1.toList == s.toList) = false := by rw [hb0.out]; simp [he]
        have HE := Lib.hid he; clear he
        go_wp2
        go_roundw
        case rel => exact ⟨k + 1, by omega, by go_num, fun j hj => by
          rcases Nat.lt_succ_iff_lt_or_eq.1 hj with h | h
          · exact HA.out j h
          · subst h; exact HE.out, SH.out.junk _⟩
        case measure => simp [intOf]; omega
    · have HF := Lib.hid (findL_no HA.out (by rw [← L1.out]; exact hlt) (by rw [← L1.out]; exact hk))
      have SH := Lib.hid S; clear S
      go_wp2
      go_ret
      rw [HF.out]
      exact ⟨none, 0, rfl, SH.out.nilrow _ _⟩
set_option maxHeartbeats 1000000 in
theorem Find05 (p : Option Addr) (n c : Nat) (hs : List Hd) (L : List Po) (s : ByteArray) (w : World) (hL : RdP w p n hs L) (hok : PoOk L) :
    Calls Try.prog 31 #[.slice p n c, .string s] w fun e w' => ∃ q c, e = .returned (.slice q (findL L s).length c) ∧ Sep w w' [.own 3 1 q (findL L s).length c (encI (findL L s))] := by
  have p1 := hL.ptr
  have n1 := hL.small
  have l1 := hL.hn
  have HL := Lib.hid hL; clear hL
  have L1 := Lib.hid l1; clear l1
  have HOK := Lib.hid hok; clear hok
  go_enter Try.func31, Try.ntmps31
  go_wp2
  go_loopw [5] (fun i wr => ∃ k : Nat, k ≤ n ∧ i = .int .i64 k ∧ (∀ j, j < k → (nth L j).1 ≠ s) ∧ Sep w wr []) (fun i _ => n - (intOf i).toNat)
  case atStart => exact ⟨0, Nat.zero_le _, rfl, fun j hj => by omega, Sep.start w⟩
  case round =>
    obtain ⟨k, hk, rfl, ha, S⟩ := hrel
    have HA := Lib.hid ha; clear ha
    by_cases hlt : k < n
    · have g1 := S.ext.cell (HL.out.c1 k hlt)
      have g2 := S.ext.cell (HL.out.c2 k hlt)
      have RE := Lib.hid ((HL.out.each k hlt).ext S.ext)
      have SH := Lib.hid S; clear S
      have d1 : (0:Int) ≤ k := by omega
      have d2 : (k:Int) < n := by omega
      have hb0 := Lib.hid (str_beq (nth L k).1 s)
      have hlen : (nth hs k).n ≤ 1000 := by rw [RE.out.nI]; exact (HOK.out.at (by rw [← L1.out]; exact hlt)).1
      by_cases he : (nth L k).1 = s
      · have hq2 : ((nth L k).1.toList == s.toList) = true := by rw [hb0.out]; simp [he]
        have HF := Lib.hid (findL_at HA.out (by rw [← L1.out]; exact hlt) he)
        clear he
        go_wp2_with (go_at_call 66; go_must (refine (OwnI01 _ _ _ _ _ RE.out (by omega)).mono ?_; rintro e w2 ⟨q, c', rfl, S1⟩; have S2 := Lib.hid (SH.out.comp S1); clear S1))
        go_ret
        rw [HF.out]
        have h3 := RE.out.nI
        exact ⟨q, c', ret_slc h3, by rw [← h3]; exact S2.out⟩
      · have hq2 : ((nth L k).1.toList == s.toList) = false := by rw [hb0.out]; simp [he]
        have HE := Lib.hid he; clear he
        go_wp2
        go_roundw
        case rel => exact ⟨k + 1, by omega, by go_num, fun j hj => by
          rcases Nat.lt_succ_iff_lt_or_eq.1 hj with h | h
          · exact HA.out j h
          · subst h; exact HE.out, SH.out⟩
        case measure => simp [intOf]; omega
    · have HF := Lib.hid (findL_no HA.out (by rw [← L1.out]; exact hlt) (by rw [← L1.out]; exact hk))
      have SH := Lib.hid S; clear S
      go_wp2
      go_ret
      rw [HF.out]
      exact ⟨none, 0, rfl, SH.out.nilrow _ _⟩
end Go.Proofs.Ytcjkechemjdboaa
