/- What All, Any and Both say, whatever the order of words; what is not looked at bounds what is. No program in sight. -/
import Derived.Test.YtcjkechemjdboaaRef5b
import Derived.Test.YtcjkechemjdboaaEq5
namespace Go.Proofs.Ytcjkechemjdboaa
open Go Go.RowKit
theorem nth0_mem {α : Type} [Inhabited α] {ws : List α} (h : 0 < ws.length) : nth ws 0 ∈ ws := by rw [nth_eq h]; exact List.getElem_mem _
theorem allS_rises (L : List Po) (ws : List ByteArray) : Rises ltI (allS L ws) := putAll_rises stoI _
theorem anyS_rises (L : List Po) (ws : List ByteArray) : Rises ltI (anyS L ws) := putAll_rises stoI _
theorem bothS_rises (a b : List Int) : Rises ltI (bothS a b) := putAll_rises stoI _
theorem allS_iff {L : List Po} {ws : List ByteArray} {x : Int} (h : 0 < ws.length) : x ∈ allS L ws ↔ ∀ u ∈ ws, x ∈ findL L u := by
  unfold allS
  rw [putAll_mem stoI, List.mem_filter, List.all_eq_true]
  constructor
  · rintro ⟨_, h2⟩ u hu; simpa using h2 u hu
  · intro h2; exact ⟨h2 _ (nth0_mem h), fun u hu => by simpa using h2 u hu⟩
theorem anyS_iff {L : List Po} {ws : List ByteArray} {x : Int} : x ∈ anyS L ws ↔ ∃ u ∈ ws, x ∈ findL L u := by
  unfold anyS; rw [putAll_mem stoI, List.mem_flatMap]
theorem bothS_iff {a b : List Int} {x : Int} : x ∈ bothS a b ↔ x ∈ a ∧ x ∈ b := by
  unfold bothS; rw [putAll_mem stoI, List.mem_filter, inB_iff]
theorem allS_same {L : List Po} {ws vs : List ByteArray} (h : 0 < ws.length) (k : 0 < vs.length) (hm : ∀ u, u ∈ ws ↔ u ∈ vs) : allS L ws = allS L vs :=
  rises_uniq stoI _ _ (allS_rises _ _) (allS_rises _ _) fun x => by rw [allS_iff h, allS_iff k]; simp only [hm]
theorem anyS_same {L : List Po} {ws vs : List ByteArray} (hm : ∀ u, u ∈ ws ↔ u ∈ vs) : anyS L ws = anyS L vs :=
  rises_uniq stoI _ _ (anyS_rises _ _) (anyS_rises _ _) fun x => by rw [anyS_iff, anyS_iff]; simp only [hm]
theorem bothS_comm (a b : List Int) : bothS a b = bothS b a :=
  rises_uniq stoI _ _ (bothS_rises _ _) (bothS_rises _ _) fun x => by rw [bothS_iff, bothS_iff, and_comm]
theorem bothS_self {l : List Int} (h : Rises ltI l) : bothS l l = l :=
  rises_uniq stoI _ _ (bothS_rises _ _) h fun x => by rw [bothS_iff, and_self]
theorem rises_nth {l : List Int} (h : Rises ltI l) {k : Nat} (hk : k + 1 < l.length) : nth l k < nth l (k + 1) := by
  rw [nth_eq (by omega), nth_eq hk]
  have := List.pairwise_iff_getElem.1 h k (k + 1) (by omega) hk (by omega)
  simpa [ltI] using this
theorem bothS_len (a b : List Int) : (bothS a b).length ≤ a.length := Nat.le_trans (putAll_len _ _) (List.length_filter_le _ _)
theorem allS_len {L : List Po} (hok : PoOk L) (ws : List ByteArray) : (allS L ws).length ≤ 1000 := by
  rw [← allK_end (Nat.le_refl _)]; exact allK_len hok ws _
theorem anyS_len {L : List Po} (hok : PoOk L) (ws : List ByteArray) : (anyS L ws).length ≤ 1000 * ws.length := Nat.le_trans (putAll_len _ _) (flat_len hok ws)
theorem bigP_facts {L : List Po} (h : bigP L = false) : L.length ≤ 40 ∧ ∀ p ∈ L, p.1.size ≤ 60 ∧ p.2.length ≤ 60 := by
  unfold bigP at h
  rw [Bool.or_eq_false_iff, Bool.and_eq_false_iff] at h
  have h1 : L.length ≤ 40 := by simpa using h.2
  refine ⟨h1, fun p hp => ?_⟩
  have h2 : L.any badPo = false := by
    rcases h.1 with h3 | h3
    · simp at h3; omega
    · exact h3
  have := List.any_eq_false.1 h2 p hp
  unfold badPo at this
  simp at this
  exact this
theorem few_facts {ws : List ByteArray} (h : fewB ws = true) : ws.length ≤ 12 ∧ ∀ s ∈ ws, s.size ≤ 60 := by
  unfold fewB at h
  rw [Bool.and_eq_true, List.all_eq_true] at h
  exact ⟨by simpa using h.2, fun s hs => by simpa using h.1 s hs⟩
theorem poOk_of {L : List Po} (h : bigP L = false) (hI : ∀ q ∈ L, ∀ x ∈ q.2, I64 x) : PoOk L := fun p hp => ⟨by have := ((bigP_facts h).2 p hp).2; omega, hI p hp⟩
theorem poSz_of {L : List Po} (h : bigP L = false) : PoSz L := fun p hp => by have := ((bigP_facts h).2 p hp).1; omega
/-- the words turned round, the first one once more -/
theorem back_mem {ws : List ByteArray} (h : 0 < ws.length) (u : ByteArray) : u ∈ ws ↔ u ∈ ws.reverse ++ [nth ws 0] := by
  rw [List.mem_append, List.mem_reverse, List.mem_singleton]
  exact ⟨.inl, fun h1 => h1.elim id fun e => e ▸ nth0_mem h⟩
theorem more_all {L : List Po} {ws : List ByteArray} {u : ByteArray} (h : 0 < ws.length) {x : Int} (hx : x ∈ allS L (ws ++ [u])) : x ∈ allS L ws := by
  rw [allS_iff (by simp)] at hx
  rw [allS_iff h]
  exact fun v hv => hx v (List.mem_append_left _ hv)
theorem more_any {L : List Po} {ws : List ByteArray} {u : ByteArray} {x : Int} (hx : x ∈ anyS L ws) : x ∈ anyS L (ws ++ [u]) := by
  rw [anyS_iff] at hx ⊢
  obtain ⟨v, hv, h⟩ := hx
  exact ⟨v, List.mem_append_left _ hv, h⟩
theorem all_any {L : List Po} {ws : List ByteArray} (h : 0 < ws.length) {x : Int} (hx : x ∈ allS L ws) : x ∈ anyS L ws := by
  rw [allS_iff h] at hx
  rw [anyS_iff]
  exact ⟨_, nth0_mem h, hx _ (nth0_mem h)⟩
theorem nth_mem {α : Type} [Inhabited α] {l : List α} {k : Nat} (h : k < l.length) : nth l k ∈ l := by rw [nth_eq h]; exact List.getElem_mem _
theorem inB_true {l : List Int} {x : Int} (h : x ∈ l) : inB l x = true := (inB_iff l x).2 h
theorem inB_both {a b : List Int} {x : Int} (h : x ∈ a) : inB b x = inB (bothS a b) x := by
  rw [Bool.eq_iff_iff, inB_iff, inB_iff, bothS_iff]; exact ⟨fun k => ⟨h, k⟩, fun k => k.2⟩
theorem take_succ_rev {α : Type} [Inhabited α] (l : List α) {k : Nat} (h : k < l.length) : l.reverse.take (k + 1) = l.reverse.take k ++ [nth l (l.length - 1 - k)] := by
  rw [take_succ_nth _ k (by simpa using h)]
  congr 2
  rw [nth_eq (by simpa using h), nth_eq (by omega), List.getElem_reverse]
theorem IntsT (p q : Option Addr) (n m c d : Nat) (A : List Int) (w : World) (h1 : Rd w 1 p n (encI A)) (h2 : Rd w 1 q m (encI A)) : Calls Try.prog 24 #[.slice p n c, .slice q m d] w fun e w' => e = .returned (.bool true) ∧ Ext w w' :=
  (Ints01 p q n m c d A A w h1 h2).mono fun e w' ⟨h3, h4⟩ => ⟨by rw [h3]; simp, h4⟩
end Go.Proofs.Ytcjkechemjdboaa
