/- Postings in memory of their own; the same; too many; few words. -/
import Derived.Test.YtcjkechemjdboaaRef5b
namespace Go.Proofs.Ytcjkechemjdboaa
open Go Go.RowKit Go.Maps
theorem own_small {w : World} {base : Nat} {e : TypeId} {size : Nat} {q : Option Addr} {n c : Nat} {xs : List Value} (h : w.ownsRow base e size (.slice q n c) n xs) : n ≤ 9223372036854775807 := by
  rcases h.2 with ⟨_, h2⟩ | ⟨g, cap, cur, h1, _, _, h3, h4, _⟩
  · omega
  · unfold maxLen at h4; omega
def encPo (L : List Po) (hs : List Hd) : List Value := (L.zip hs).flatMap fun x => [.string x.1.1, x.2.v]
theorem encPo_len : ∀ (L : List Po) (hs : List Hd), hs.length = L.length → (encPo L hs).length = L.length * 2
  | [], _, _ => by simp [encPo]
  | p :: L, [], h => by simp at h
  | p :: L, a :: hs, h => by
    have := encPo_len L hs (by simpa using h)
    unfold encPo at this ⊢
    rw [List.zip_cons_cons, List.flatMap_cons, List.length_append, this, List.length_cons]; simp; omega
theorem encPo_get : ∀ (L : List Po) (hs : List Hd) (k : Nat), hs.length = L.length → k < L.length → (encPo L hs).getD (k * 2) undef = .string (nth L k).1 ∧ (encPo L hs).getD (k * 2 + 1) undef = (nth hs k).v
  | [], _, k, _, h => by simp at h
  | p :: L, [], _, h, _ => by simp at h
  | p :: L, a :: hs, 0, _, _ => ⟨rfl, rfl⟩
  | p :: L, a :: hs, k + 1, h, hk => by
    have := encPo_get L hs k (by simpa using h) (by simpa using hk)
    have e1 : (k + 1) * 2 = k * 2 + 1 + 1 := by omega
    have e2 : nth (p :: L) (k + 1) = nth L k := rfl
    have e3 : nth (a :: hs) (k + 1) = nth hs k := rfl
    rw [e1, e2, e3]
    exact this
theorem encPo_snoc (L : List Po) (hs : List Hd) (p : Po) (a : Hd) (h : hs.length = L.length) : encPo (L ++ [p]) (hs ++ [a]) = encPo L hs ++ [.string p.1, a.v] := by
  unfold encPo
  rw [List.zip_append h.symm, List.flatMap_append]; rfl
def rowsP (L : List Po) (hs : List Hd) : List (Hd × List Value) := hs.zip (L.map fun p => encI p.2)
theorem rowsP_snoc (L : List Po) (hs : List Hd) (p : Po) (a : Hd) (h : hs.length = L.length) : rowsP (L ++ [p]) (hs ++ [a]) = rowsP L hs ++ [(a, encI p.2)] := by
  unfold rowsP
  rw [List.map_append, List.zip_append (by simpa using h)]; rfl
theorem rowsP_at {L : List Po} {hs : List Hd} {k : Nat} (h : hs.length = L.length) (hk : k < L.length) : (nth hs k, encI (nth L k).2) ∈ rowsP L hs := by
  unfold rowsP
  rw [List.mem_iff_getElem]
  refine ⟨k, by simp; omega, ?_⟩
  rw [List.getElem_zip, nth_eq (by omega), nth_eq hk, List.getElem_map]
theorem RdP.of_sep {w0 w : World} {Γ : List Pc} (S : Sep w0 w Γ) (j i : Nat) {q : Option Addr} {n c : Nat} {hs : List Hd} {L : List Po} (hj : Γ[j]? = some (.many 3 1 (rowsP L hs))) (hi : Γ[i]? = some (.own 69 2 q n c (encPo L hs))) (hl : hs.length = L.length) : RdP w q n hs L := by
  have ho := S.own i hi
  have hr := Rd.of_own ho (own_small ho)
  have hn : n = L.length := by have := ho.1; rw [encPo_len L hs hl] at this; omega
  refine ⟨hn, hr.ptr, hr.small, fun k hk => ?_, fun k hk => ?_, fun k hk => ?_⟩
  · rw [hr.cells (k * 2) (by omega), (encPo_get L hs k hl (by omega)).1]
  · rw [hr.cells (k * 2 + 1) (by omega), (encPo_get L hs k hl (by omega)).2]; rfl
  · have h1 := S.manyAt j hj _ (rowsP_at hl (show k < L.length by omega))
    exact Rd.of_own h1 (own_small h1)
theorem infP : (Try.prog.info? 69).map (fun i => (i.zero, i.size, i.bytes)) = some (some (.agg #[.string ByteArray.empty, .slice none 0 0]), 2, 40) := by kernel_rfl
theorem one_P (a : ByteArray) (p : Option Addr) (m d : Nat) : ∀ u ∈ [Value.string a, Value.slice p m d], u.oneCell' = true := by intro u hu; simp at hu; rcases hu with rfl | rfl <;> rfl
set_option maxHeartbeats 1000000 in
theorem Own05 (p : Option Addr) (n c : Nat) (hs : List Hd) (L : List Po) (w : World) (hL : RdP w p n hs L) (hok : PoOk L) (hn : n ≤ 100000) :
    Calls Try.prog 27 #[.slice p n c] w fun e w' => ∃ q c' hs', e = .returned (.slice q n c') ∧ RdP w' q n hs' L ∧ Ext w w' := by
  obtain ⟨i0, hi0, hz0, hz1, hz2⟩ := info_parts infP
  have p1 := hL.ptr
  have n1 := hL.small
  have l1 := hL.hn
  have HL := Lib.hid hL; clear hL
  have L1 := Lib.hid l1; clear l1
  have HOK := Lib.hid hok; clear hok
  have S0 := Lib.hid (((Sep.start w).nilrow 69 2).many0 3 1)
  go_enter Try.func27, Try.ntmps27
  go_wp2
  go_loopw [3, 4, 5] (fun v i _ wr => ∃ (k : Nat) (q : Option Addr) (c' : Nat) (hs' : List Hd), k ≤ n ∧ i = .int .i64 k ∧ v = .slice q k c' ∧ hs'.length = (L.take k).length ∧ Sep w wr [.many 3 1 (rowsP (L.take k) hs'), .own 69 2 q k c' (encPo (L.take k) hs')]) (fun _ i _ _ => n - (intOf i).toNat)
  case atStart => exact ⟨0, none, 0, [], Nat.zero_le _, rfl, rfl, rfl, S0.out⟩
  case round =>
    clear S0
    obtain ⟨k, q, c', hs', hk, rfl, rfl, hlh, S⟩ := hrel
    have HLH := Lib.hid hlh; clear hlh
    by_cases hlt : k < n
    · have g1 := S.ext.cell (HL.out.c1 k hlt)
      have g2 := S.ext.cell (HL.out.c2 k hlt)
      have RE := Lib.hid ((HL.out.each k hlt).ext S.ext)
      have LE := Lib.hid RE.out.nI
      have SH := Lib.hid S; clear S
      have d1 : (0:Int) ≤ k := by omega
      have d2 : (k:Int) < n := by omega
      have hkL : k < L.length := by rw [← L1.out]; exact hlt
      have hlen : (nth hs k).n ≤ 1000 := by rw [LE.out]; exact (HOK.out.at hkL).1
      have HT := Lib.hid (take_succ_nth L k hkL)
      go_wp2_with (first
        | (at_builtin; go_must (refine wpList_append_sep rfl _ _ _ rfl 69 i0 _ 2 40 Try.underlying28 hi0 hz0 hz1 hz2 rfl (by omega) (S2.out.junk _) 1 q k c' _ rfl rfl _ 1 1 _ rfl (Rd.new _ _ _ 1 2 rfl (by omega)) (one_P _ _ _ _) (by omega) (by omega) ?_; intro u' e' w4 S' hsz; have S3 := Lib.hid S'; clear S' hsz))
        | (go_at_call 66; go_must (refine (OwnI01 _ _ _ _ _ RE.out (by omega)).mono ?_; rintro e w2 ⟨q2, c2, rfl, T⟩; have S2 := Lib.hid ((SH.out.comp T).gather); have g1 := (SH.out.ext.trans T.ext).cell (HL.out.c1 k hlt); clear T)))
      go_roundw
      case rel => exact ⟨k + 1, u', e', hs' ++ [⟨q2, (nth hs k).n, c2⟩], by omega, by go_num, rfl, by rw [HT.out, List.length_append, List.length_append, HLH.out]; rfl, by rw [HT.out, rowsP_snoc _ _ _ _ HLH.out, encPo_snoc _ _ _ _ HLH.out]; exact S3.out⟩
      case measure => simp [intOf]; omega
    · obtain rfl : k = n := by omega
      have HT : Hid (L.take k = L) := by unfold Hid; rw [List.take_of_length_le (by rw [← L1.out]; omega)]
      rw [HT.out] at HLH
      have HR := Lib.hid (RdP.of_sep S 0 1 (L := L.take k) rfl rfl (by rw [HT.out]; exact HLH.out))
      rw [HT.out] at HR
      have SH := Lib.hid S; clear S
      go_wp2
      go_ret
      exact ⟨q, c', hs', rfl, HR.out, SH.out.ext⟩
end Go.Proofs.Ytcjkechemjdboaa
