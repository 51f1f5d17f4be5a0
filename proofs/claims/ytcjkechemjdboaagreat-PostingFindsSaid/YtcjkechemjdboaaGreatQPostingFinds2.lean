/- Texts of this claim, one behind the other: FndA, FndB, Ref5, Ref5b, Own5, SortT, PlainMk, MapT, G1, G2, G10, Make5, R5, R10, R7, Mk5r, R8, G9, Big2, Chk5, Eq5, Ex5, R9, R4, LMakes, G11, PlainP, RT, Plain2, PlainF, LFinds. -/
import Derived.Maps.OwnSet
import Derived.Test.YtcjkechemjdboaaGreatQPostingFinds1
/- The program's found, by meet: the closures, and all that they make. (FndB: by join; made of this text by gen2.py.) -/
namespace Go.Proofs.YtcjkechemjdboaaGreat
open Go Go.RowKit Go.Maps
theorem methAll (a : Nat) (w : World) : Calls Tryz.prog 45 #[.map (some a)] w fun e w' => e = .returned (.func (.func 46) #[.map (some a)] #[]) ∧ Ext w w' := by
  go_enter Tryz.func45, Tryz.ntmps45
  go_wp2
  go_ret
  exact ⟨rfl, Below.refl _ _⟩
/-- what the free operations of the closure's region tell -/
def CloAll (w : World) (L : List Po) (s : ByteArray) (S : Int → Prop) (a n : Nat) (i : Nat) (v : Value) (W : World) : Prop :=
  match i with
  | 2 => v = .func (.func 46) #[.map (some a)] #[]
  | 5 => ∃ q c, v = .slice q (findL L s).length c ∧ Rd W 1 q (findL L s).length (encI (findL L s))
  | 6 => ∃ b f, v = .map (some b) ∧ MapI Tryz.prog 3 EB b 1000 f W ∧ ∀ x, f x = some true ↔ x ∈ findL L s
  | 7 => ∃ b f, v = .map (some b) ∧ w.heap.size ≤ b ∧ MapI Tryz.prog 3 EB b (n + 1000) f W ∧ ∀ x, f x = some true ↔ (S x ∧ x ∈ findL L s)
  | _ => True
theorem CloAll_mono {w : World} {L : List Po} {s : ByteArray} {S : Int → Prop} {a n : Nat} : ∀ i v W W', Ext W W' → CloAll w L s S a n i v W → CloAll w L s S a n i v W' := by
  intro i v W W' he h
  unfold CloAll at *
  split at h
  · exact h
  · obtain ⟨q, c, h1, h2⟩ := h; exact ⟨q, c, h1, h2.ext he⟩
  · obtain ⟨b, f, h1, h2, h3⟩ := h; exact ⟨b, f, h1, h2.ext he, h3⟩
  · obtain ⟨b, f, h1, h0, h2, h3⟩ := h; exact ⟨b, f, h1, h0, h2.ext he, h3⟩
  · trivial
set_option maxRecDepth 100000 in
set_option maxHeartbeats 1000000 in
theorem closAll (a n : Nat) (f : Int → Option Bool) (S : Int → Prop) (s : ByteArray) (b5 b3 : Nat) (p : Option Addr) (np cp : Nat) (hs : List Hd) (L : List Po) (w : World) (hA : MapI Tryz.prog 3 EB a n f w) (hf : ∀ x, f x = some true ↔ S x)
    (h5 : w.cell? ⟨b5, 0, none⟩ = some (.func (.func 45) #[] #[])) (h3 : w.cell? ⟨b3, 0, none⟩ = some (.slice p np cp)) (hL : RdP w p np hs L) (hok : PoOk L) (hn : n ≤ 500000) :
    Calls Tryz.prog 68 #[.map (some a), .string s, .pointer (some ⟨b5, 0, none⟩), .pointer (some ⟨b3, 0, none⟩)] w fun e w' => ∃ c h, e = .returned (.map (some c)) ∧ Sep w w' [.map Tryz.prog 3 EB c (n + 1000) h] ∧ ∀ x, h x = some true ↔ (S x ∧ x ∈ findL L s) := by
  have HFO := Lib.hid (findL_ok hok s)
  have HA := Lib.hid hA; clear hA
  have HF := Lib.hid hf; clear hf
  have HL := Lib.hid hL; clear hL
  have HOK := Lib.hid hok; clear hok
  have x5 := fun x : ExtOf w => x.ext.cell h5
  have x3 := fun x : ExtOf w => x.ext.cell h3
  go_enter Tryz.func68, Tryz.ntmps68
  go_wp2
  refine wp_region_mix [true, true, false, true, true, false, false, false] (CloAll w L s S a n) (by kernel_rfl) (by kernel_rfl) (by kernel_rfl) CloAll_mono ?_
  simp only [nfM]
  repeat (go_big_quiet_step ((fail)))
  refine wpQuiet_nil ⟨⟨fun vs W hE hd => ?_, fun vs W hE hd => ?_, fun vs W hE hd => ?_, fun vs W hE hd => ?_, trivial⟩, fun vs W hE hkn => ?_⟩
  · simp [putM, execOp, go_sem]
    exact (methAll a W).mono fun e w' ⟨h1, h2⟩ => ⟨_, h1, rfl, h2⟩
  · simp [putM, execOp, go_sem]
    exact (FindG p np cp hs L s W (HL.out.ext hE) HOK.out).mono fun e w' ⟨q, c, h1, h2⟩ => ⟨_, h1, ⟨q, c, rfl, h2.rd 0 rfl (by have := HFO.out.1; omega)⟩, h2.ext⟩
  · obtain ⟨q, c, e1, e2⟩ := hd 5 (by decide) rfl
    simp [putM, execOp, go_sem, e1]
    exact (ofG q _ c (findL L s) W e2 HFO.out.2 (by have := HFO.out.1; omega)).mono fun e w' ⟨b, g, h1, h2, h3⟩ => ⟨_, h1, ⟨b, g, rfl, (h2.map 0 rfl).mono HFO.out.1, h3⟩, h2.ext⟩
  · have e0 : vs 2 = _ := hd 2 (by decide) rfl
    obtain ⟨b, g, e1, e2, e3⟩ := hd 6 (by decide) rfl
    simp [putM, execOp, go_sem, e0, e1]
    exact (meetG a b n 1000 f g W (HA.out.ext hE) e2 (by omega)).mono fun e w' ⟨c, h, h1, h2, h3⟩ => ⟨_, h1, ⟨c, h, rfl, Nat.le_trans hE.size (h2.new _ (List.mem_singleton.2 rfl) c rfl), (h2.map 0 rfl).mono (by omega), fun x => by rw [h3, HF.out, e3]⟩, h2.ext⟩
  · obtain ⟨_, ⟨_, _, k1, _⟩, ⟨_, _, k2, _⟩, ⟨c, h, k3, k4, k5, k6⟩, _⟩ := hkn
    have HK5 := Lib.hid k5
    have HK6 := Lib.hid k6
    have HE := Lib.hid hE
    have HK4 := Lib.hid k4
    simp only [putM, k3, List.length_cons, List.length_nil, Nat.zero_add, Nat.reduceAdd, List.drop_succ_cons, List.drop_zero]
    clear x5 x3 k1 k2 k3 k4 k5 k6 hE
    go_wp2
    go_ret
    exact ⟨c, h, rfl, ⟨HE.out, fun q hq => by rw [List.mem_singleton] at hq; subst hq; exact HK5.out, fun q hq i hi => by rw [List.mem_singleton] at hq; subst hq; have : i = c := hi; rw [this]; exact HK4.out, List.pairwise_singleton _ _⟩, HK6.out⟩
set_option maxHeartbeats 1000000 in
theorem foldAll (a n : Nat) (f : Int → Option Bool) (S : Int → Prop) (R : List ByteArray) (pr : Option Addr) (nr cr : Nat) (b5 b3 : Nat) (p : Option Addr) (np cp : Nat) (hs : List Hd) (L : List Po) (w : World) (hA : MapI Tryz.prog 3 EB a n f w) (hf : ∀ x, f x = some true ↔ S x)
    (hR : Rd w 1 pr nr (encS R)) (h5 : w.cell? ⟨b5, 0, none⟩ = some (.func (.func 45) #[] #[])) (h3 : w.cell? ⟨b3, 0, none⟩ = some (.slice p np cp)) (hL : RdP w p np hs L) (hok : PoOk L) (hn : n + 1000 * nr ≤ 400000) :
    Calls Tryz.prog 66 #[.map (some a), .slice pr nr cr, .func (.func 68) #[] #[.pointer (some ⟨b5, 0, none⟩), .pointer (some ⟨b3, 0, none⟩)]] w fun e w' => ∃ c h, e = .returned (.map (some c)) ∧ MapI Tryz.prog 3 EB c (n + 1000 * nr) h w' ∧ Ext w w' ∧ ∀ x, h x = some true ↔ (S x ∧ ∀ u ∈ R, x ∈ findL L u) := by
  have p1 := hR.ptr
  have n1 := hR.small
  have l1 := hR.nS
  have HA := Lib.hid hA; clear hA
  have HF := Lib.hid hf; clear hf
  have HL := Lib.hid hL; clear hL
  have HOK := Lib.hid hok; clear hok
  have HR := Lib.hid hR; clear hR
  have L1 := Lib.hid l1; clear l1
  have H5 := Lib.hid h5; clear h5
  have H3 := Lib.hid h3; clear h3
  go_enter Tryz.func66, Tryz.ntmps66
  go_wp2
  go_loopw [0, 8, 11] (fun v _ i wr => ∃ (k b : Nat) (g : Int → Option Bool), k ≤ nr ∧ i = .int .i64 k ∧ v = .map (some b) ∧ Ext w wr ∧ MapI Tryz.prog 3 EB b (n + 1000 * k) g wr ∧ ∀ x, g x = some true ↔ (S x ∧ ∀ u ∈ R.take k, x ∈ findL L u)) (fun _ _ i _ => nr - (intOf i).toNat)
  case atStart => exact ⟨0, a, f, Nat.zero_le _, rfl, rfl, Below.refl _ _, HA.out, fun x => by rw [HF.out]; simp⟩
  case round =>
    obtain ⟨k, b, g, hk, rfl, rfl, hE, hM, hg⟩ := hrel
    have HE := Lib.hid hE; clear hE
    have HM := Lib.hid hM; clear hM
    have HG := Lib.hid hg; clear hg
    by_cases hlt : k < nr
    · have g1 := HE.out.cell (HR.out.cS hlt)
      have d1 : (0:Int) ≤ k := by omega
      have d2 : (k:Int) < nr := by omega
      go_wp2_with (go_at_call 68; go_must (refine (closAll b (n + 1000 * k) g _ (nth R k) b5 b3 p np cp hs L _ HM.out HG.out (HE.out.cell H5.out) (HE.out.cell H3.out) (HL.out.ext HE.out) HOK.out (by omega)).mono ?_; rintro e w2 ⟨c, h, rfl, S1, hh⟩; have S2 := Lib.hid S1; have HH := Lib.hid hh; clear S1 hh))
      go_roundw
      case rel => exact ⟨k + 1, c, h, by omega, by go_num, rfl, Ext.trans HE.out S2.out.ext, (S2.out.map 0 rfl).mono (by omega), fun x => by
        rw [HH.out, take_succ_nth R k (by rw [← L1.out]; exact hlt)]
        constructor
        · rintro ⟨⟨h1, h2⟩, h3⟩
          refine ⟨h1, fun u hu => ?_⟩
          rcases List.mem_append.1 hu with h | h
          · exact h2 u h
          · rw [List.mem_singleton] at h; subst h; exact h3
        · rintro ⟨h1, h2⟩
          exact ⟨⟨h1, fun u hu => h2 u (List.mem_append_left _ hu)⟩, h2 _ (by simp)⟩⟩
      case measure => simp [intOf]; omega
    · obtain rfl : k = nr := by omega
      go_wp2
      go_ret
      exact ⟨b, g, rfl, HM.out, HE.out, fun x => by rw [HG.out, List.take_of_length_le (by rw [← L1.out]; omega)]⟩
/-- the places of all words -/
def allS (L : List Po) (ws : List ByteArray) : List Int := putAll ltI ((findL L (nth ws 0)).filter fun x => ws.all fun u => (findL L u).contains x)
theorem allS_mem {L : List Po} {ws : List ByteArray} {x : Int} (h : 0 < ws.length) : (x ∈ (findL L (nth ws 0)).filter fun x => ws.all fun u => (findL L u).contains x) ↔ (x ∈ findL L (nth ws 0) ∧ ∀ u ∈ ws.drop 1, x ∈ findL L u) := by
  rw [List.mem_filter, List.all_eq_true]
  constructor
  · rintro ⟨h1, h2⟩
    exact ⟨h1, fun u hu => by have := h2 u (List.mem_of_mem_drop hu); simpa using this⟩
  · rintro ⟨h1, h2⟩
    refine ⟨h1, fun u hu => ?_⟩
    rw [← List.take_append_drop 1 ws] at hu
    rcases List.mem_append.1 hu with hu | hu
    · have : u = nth ws 0 := by
        have e : ws.take 1 = [nth ws 0] := by rw [take_succ_nth ws 0 h]; simp
        rw [e] at hu; simpa using hu
      rw [this]; simpa using h1
    · simpa using h2 u hu
def FouAll (L : List Po) (ws : List ByteArray) (nr : Nat) (i : Nat) (v : Value) (W : World) : Prop :=
  match i with
  | 4 => ∃ q c, v = .slice q (findL L (nth ws 0)).length c ∧ Rd W 1 q (findL L (nth ws 0)).length (encI (findL L (nth ws 0)))
  | 5 => ∃ b f, v = .map (some b) ∧ MapI Tryz.prog 3 EB b 1000 f W ∧ ∀ x, f x = some true ↔ x ∈ findL L (nth ws 0)
  | 9 => ∃ b f, v = .map (some b) ∧ MapI Tryz.prog 3 EB b (1000 + 1000 * nr) f W ∧ ∀ x, f x = some true ↔ (x ∈ findL L (nth ws 0) ∧ ∀ u ∈ ws.drop 1, x ∈ findL L u)
  | _ => True
theorem FouAll_mono {L : List Po} {ws : List ByteArray} {nr : Nat} : ∀ i v W W', Ext W W' → FouAll L ws nr i v W → FouAll L ws nr i v W' := by
  intro i v W W' he h
  unfold FouAll at *
  split at h
  · obtain ⟨q, c, h1, h2⟩ := h; exact ⟨q, c, h1, h2.ext he⟩
  · obtain ⟨b, f, h1, h2, h3⟩ := h; exact ⟨b, f, h1, h2.ext he, h3⟩
  · obtain ⟨b, f, h1, h2, h3⟩ := h; exact ⟨b, f, h1, h2.ext he, h3⟩
  · trivial
set_option maxRecDepth 100000 in
set_option maxHeartbeats 2000000 in
theorem foundAll (p : Option Addr) (np cp : Nat) (hs : List Hd) (L : List Po) (pr : Option Addr) (nr cr : Nat) (ws : List ByteArray) (w : World) (hL : RdP w p np hs L) (hok : PoOk L) (hR : Rd w 1 pr nr (encS ws)) (hcr : nr ≤ cr) (h0 : 0 < nr) (hn : nr ≤ 100) :
    Calls Tryz.prog 44 #[.slice p np cp, .slice pr nr cr, .func (.func 45) #[] #[]] w fun e w' => ∃ q c, e = .returned (.tuple #[.slice q (allS L ws).length c, .int .i64 0]) ∧ Sep w w' [.own 3 1 q (allS L ws).length c (encI (allS L ws))] := by
  obtain ⟨l0, hl0⟩ : ∃ l0, l0 = (findL L (nth ws 0)).filter fun x => ws.all fun u => (findL L u).contains x := ⟨_, rfl⟩
  have hal : allS L ws = putAll ltI l0 := by rw [hl0]; rfl
  rw [hal]
  have HMEM : Hid (∀ x, x ∈ l0 ↔ (x ∈ findL L (nth ws 0) ∧ ∀ u ∈ ws.drop 1, x ∈ findL L u)) := fun x => by rw [hl0]; exact allS_mem (by rw [← hR.nS]; exact h0)
  clear hal hl0
  have HFO := Lib.hid (findL_ok hok (nth ws 0))
  have p1 := hR.ptr
  have n1 := hR.small
  have g1 := hR.cS h0
  have HRC : Hid (Rd w 1 (cutp pr cr 1 1) (nr - 1) (encS (ws.drop 1))) := by
    have := hR.cut (l := 1) (h := nr) (by omega) (Nat.le_refl _) hcr
    rw [encS_drop, List.take_of_length_le (by rw [encS_len, List.length_drop, hR.nS]; omega)] at this
    exact this
  have L1 := Lib.hid hR.nS
  clear hR
  have HL := Lib.hid hL; clear hL
  have HOK := Lib.hid hok; clear hok
  have S0 := Lib.hid (((Sep.start w).al #[.slice p np cp] 30 w.heap.size rfl).al #[.func (.func 45) #[] #[]] 81 (w.heap.size + 1) (by simp))
  have hne : ((nr : Int) == 0) = false := by simp; omega
  have d1 : (1:Int) ≤ nr := by omega
  have d2 : (0:Int) < nr := by omega
  have d3 : (nr:Int) ≤ cr := by omega
  go_enter Tryz.func44, Tryz.ntmps44
  go_wp2
  obtain ⟨X, hX⟩ : ∃ X, X = ((w.alloc (.cells #[.slice p np cp] 30)).alloc (.cells #[.func (.func 45) #[] #[]] 81)) := ⟨_, rfl⟩
  have SX := S0.out
  rw [← hX] at SX ⊢
  have HX := Lib.hid SX.ext
  have c3 := (SX.blk 1 rfl).cell 0
  have c5 := (SX.blk 0 rfl).cell 0
  have g2 := HX.out.cell g1
  clear hX S0 g1 SX
  have H3 : Hid (X.cell? ⟨w.heap.size, 0, none⟩ = some (.slice p np cp)) := c3
  have H5 : Hid (X.cell? ⟨w.heap.size + 1, 0, none⟩ = some (.func (.func 45) #[] #[])) := c5
  have x3 := fun x : ExtOf X => x.ext.cell c3
  have x5 := fun x : ExtOf X => x.ext.cell c5
  have xg := fun x : ExtOf X => x.ext.cell g2
  refine wp_region_mix [true, true, true, true, false, false, true, true, true, false] (FouAll L ws nr) (by kernel_rfl) (by kernel_rfl) (by kernel_rfl) FouAll_mono ?_
  simp only [nfM]
  repeat (go_big_quiet_step ((fail)))
  refine wpQuiet_nil ⟨⟨fun vs W hE hd => ?_, fun vs W hE hd => ?_, fun vs W hE hd => ?_, trivial⟩, fun vs W hE hkn => ?_⟩
  · simp [putM, execOp, go_sem]
    exact (FindG p np cp hs L _ W ((HL.out.ext HX.out).ext hE) HOK.out).mono fun e w' ⟨q, c, h1, h2⟩ => ⟨_, h1, ⟨q, c, rfl, h2.rd 0 rfl (by have := HFO.out.1; omega)⟩, h2.ext⟩
  · obtain ⟨q, c, e1, e2⟩ := hd 4 (by decide) rfl
    simp [putM, execOp, go_sem, e1]
    exact (ofG q _ c _ W e2 HFO.out.2 (by have := HFO.out.1; omega)).mono fun e w' ⟨b, g, h1, h2, h3⟩ => ⟨_, h1, ⟨b, g, rfl, (h2.map 0 rfl).mono HFO.out.1, h3⟩, h2.ext⟩
  · obtain ⟨b, g, e1, e2, e3⟩ := hd 5 (by decide) rfl
    simp [putM, execOp, go_sem, e1]
    exact (foldAll b 1000 g _ (ws.drop 1) (cutp pr cr 1 1) (nr - 1) (cr - 1) (w.heap.size + 1) w.heap.size p np cp hs L W e2 e3 ((HRC.out.ext HX.out).ext hE) (hE.cell H5.out) (hE.cell H3.out) ((HL.out.ext HX.out).ext hE) HOK.out (by omega)).mono fun e w' ⟨c, h, h1, h2, h3, h4⟩ => ⟨_, h1, ⟨c, h, rfl, h2.mono (by omega), h4⟩, h3⟩
  · obtain ⟨⟨_, _, k1, _⟩, ⟨_, _, k2, _⟩, ⟨b, f, k3, k4, k5⟩, _⟩ := hkn
    have HK4 := Lib.hid k4
    have HE := Lib.hid (Ext.trans HX.out hE)
    have HK5 : Hid (∀ x, f x = some true ↔ x ∈ l0) := fun x => by rw [k5, HMEM.out]
    simp only [putM, k1, k2, k3, List.length_cons, List.length_nil, Nat.zero_add, Nat.reduceAdd, List.drop_succ_cons, List.drop_zero]
    clear x5 x3 xg k1 k2 k3 k4 k5 hE c3 c5 g2
    go_wp2_with (go_at_call 69; go_must (refine (risingG b _ f _ _ HK4.out HK5.out (by omega)).mono ?_; rintro e w2 ⟨q, c, rfl, S1⟩; have S2 := Lib.hid (((Sep.start w).call HE.out).comp S1); clear S1))
    go_ret2
    exact ⟨q, c, rfl, S2.out⟩
theorem foundAll0 (p : Option Addr) (np cp : Nat) (pr : Option Addr) (cr : Nat) (w : World) :
    Calls Tryz.prog 44 #[.slice p np cp, .slice pr 0 cr, .func (.func 45) #[] #[]] w fun e w' => e = .returned (.tuple #[.slice none 0 0, .int .i64 1]) ∧ Ext w w' := by
  go_enter Tryz.func44, Tryz.ntmps44
  go_wp2
  go_ret2
  exact ⟨rfl, Ext.alloc (Ext.alloc (Below.refl _ _) _) _⟩
end Go.Proofs.YtcjkechemjdboaaGreat
/- The program's found, by join: the closures, and all that they make. (Made of FndA by gen2.py.) -/
namespace Go.Proofs.YtcjkechemjdboaaGreat
open Go Go.RowKit Go.Maps
theorem methAny (a : Nat) (w : World) : Calls Tryz.prog 47 #[.map (some a)] w fun e w' => e = .returned (.func (.func 48) #[.map (some a)] #[]) ∧ Ext w w' := by
  go_enter Tryz.func47, Tryz.ntmps47
  go_wp2
  go_ret
  exact ⟨rfl, Below.refl _ _⟩
/-- what the free operations of the closure's region tell -/
def CloAny (w : World) (L : List Po) (s : ByteArray) (S : Int → Prop) (a n : Nat) (i : Nat) (v : Value) (W : World) : Prop :=
  match i with
  | 2 => v = .func (.func 48) #[.map (some a)] #[]
  | 5 => ∃ q c, v = .slice q (findL L s).length c ∧ Rd W 1 q (findL L s).length (encI (findL L s))
  | 6 => ∃ b f, v = .map (some b) ∧ MapI Tryz.prog 3 EB b 1000 f W ∧ ∀ x, f x = some true ↔ x ∈ findL L s
  | 7 => ∃ b f, v = .map (some b) ∧ w.heap.size ≤ b ∧ MapI Tryz.prog 3 EB b (n + 1000) f W ∧ ∀ x, f x = some true ↔ (S x ∨ x ∈ findL L s)
  | _ => True
theorem CloAny_mono {w : World} {L : List Po} {s : ByteArray} {S : Int → Prop} {a n : Nat} : ∀ i v W W', Ext W W' → CloAny w L s S a n i v W → CloAny w L s S a n i v W' := by
  intro i v W W' he h
  unfold CloAny at *
  split at h
  · exact h
  · obtain ⟨q, c, h1, h2⟩ := h; exact ⟨q, c, h1, h2.ext he⟩
  · obtain ⟨b, f, h1, h2, h3⟩ := h; exact ⟨b, f, h1, h2.ext he, h3⟩
  · obtain ⟨b, f, h1, h0, h2, h3⟩ := h; exact ⟨b, f, h1, h0, h2.ext he, h3⟩
  · trivial
set_option maxRecDepth 100000 in
set_option maxHeartbeats 1000000 in
theorem closAny (a n : Nat) (f : Int → Option Bool) (S : Int → Prop) (s : ByteArray) (b5 b3 : Nat) (p : Option Addr) (np cp : Nat) (hs : List Hd) (L : List Po) (w : World) (hA : MapI Tryz.prog 3 EB a n f w) (hf : ∀ x, f x = some true ↔ S x)
    (h5 : w.cell? ⟨b5, 0, none⟩ = some (.func (.func 47) #[] #[])) (h3 : w.cell? ⟨b3, 0, none⟩ = some (.slice p np cp)) (hL : RdP w p np hs L) (hok : PoOk L) (hn : n ≤ 500000) :
    Calls Tryz.prog 68 #[.map (some a), .string s, .pointer (some ⟨b5, 0, none⟩), .pointer (some ⟨b3, 0, none⟩)] w fun e w' => ∃ c h, e = .returned (.map (some c)) ∧ Sep w w' [.map Tryz.prog 3 EB c (n + 1000) h] ∧ ∀ x, h x = some true ↔ (S x ∨ x ∈ findL L s) := by
  have HFO := Lib.hid (findL_ok hok s)
  have HA := Lib.hid hA; clear hA
  have HF := Lib.hid hf; clear hf
  have HL := Lib.hid hL; clear hL
  have HOK := Lib.hid hok; clear hok
  have x5 := fun x : ExtOf w => x.ext.cell h5
  have x3 := fun x : ExtOf w => x.ext.cell h3
  go_enter Tryz.func68, Tryz.ntmps68
  go_wp2
  refine wp_region_mix [true, true, false, true, true, false, false, false] (CloAny w L s S a n) (by kernel_rfl) (by kernel_rfl) (by kernel_rfl) CloAny_mono ?_
  simp only [nfM]
  repeat (go_big_quiet_step ((fail)))
  refine wpQuiet_nil ⟨⟨fun vs W hE hd => ?_, fun vs W hE hd => ?_, fun vs W hE hd => ?_, fun vs W hE hd => ?_, trivial⟩, fun vs W hE hkn => ?_⟩
  · simp [putM, execOp, go_sem]
    exact (methAny a W).mono fun e w' ⟨h1, h2⟩ => ⟨_, h1, rfl, h2⟩
  · simp [putM, execOp, go_sem]
    exact (FindG p np cp hs L s W (HL.out.ext hE) HOK.out).mono fun e w' ⟨q, c, h1, h2⟩ => ⟨_, h1, ⟨q, c, rfl, h2.rd 0 rfl (by have := HFO.out.1; omega)⟩, h2.ext⟩
  · obtain ⟨q, c, e1, e2⟩ := hd 5 (by decide) rfl
    simp [putM, execOp, go_sem, e1]
    exact (ofG q _ c (findL L s) W e2 HFO.out.2 (by have := HFO.out.1; omega)).mono fun e w' ⟨b, g, h1, h2, h3⟩ => ⟨_, h1, ⟨b, g, rfl, (h2.map 0 rfl).mono HFO.out.1, h3⟩, h2.ext⟩
  · have e0 : vs 2 = _ := hd 2 (by decide) rfl
    obtain ⟨b, g, e1, e2, e3⟩ := hd 6 (by decide) rfl
    simp [putM, execOp, go_sem, e0, e1]
    exact (joinG a b n 1000 f g W (HA.out.ext hE) e2 (by omega) (by omega)).mono fun e w' ⟨c, h, h1, h2, h3⟩ => ⟨_, h1, ⟨c, h, rfl, Nat.le_trans hE.size (h2.new _ (List.mem_singleton.2 rfl) c rfl), (h2.map 0 rfl).mono (by omega), fun x => by rw [h3, HF.out, e3]⟩, h2.ext⟩
  · obtain ⟨_, ⟨_, _, k1, _⟩, ⟨_, _, k2, _⟩, ⟨c, h, k3, k4, k5, k6⟩, _⟩ := hkn
    have HK5 := Lib.hid k5
    have HK6 := Lib.hid k6
    have HE := Lib.hid hE
    have HK4 := Lib.hid k4
    simp only [putM, k3, List.length_cons, List.length_nil, Nat.zero_add, Nat.reduceAdd, List.drop_succ_cons, List.drop_zero]
    clear x5 x3 k1 k2 k3 k4 k5 k6 hE
    go_wp2
    go_ret
    exact ⟨c, h, rfl, ⟨HE.out, fun q hq => by rw [List.mem_singleton] at hq; subst hq; exact HK5.out, fun q hq i hi => by rw [List.mem_singleton] at hq; subst hq; have : i = c := hi; rw [this]; exact HK4.out, List.pairwise_singleton _ _⟩, HK6.out⟩
set_option maxHeartbeats 1000000 in
theorem foldAny (a n : Nat) (f : Int → Option Bool) (S : Int → Prop) (R : List ByteArray) (pr : Option Addr) (nr cr : Nat) (b5 b3 : Nat) (p : Option Addr) (np cp : Nat) (hs : List Hd) (L : List Po) (w : World) (hA : MapI Tryz.prog 3 EB a n f w) (hf : ∀ x, f x = some true ↔ S x)
    (hR : Rd w 1 pr nr (encS R)) (h5 : w.cell? ⟨b5, 0, none⟩ = some (.func (.func 47) #[] #[])) (h3 : w.cell? ⟨b3, 0, none⟩ = some (.slice p np cp)) (hL : RdP w p np hs L) (hok : PoOk L) (hn : n + 1000 * nr ≤ 400000) :
    Calls Tryz.prog 66 #[.map (some a), .slice pr nr cr, .func (.func 68) #[] #[.pointer (some ⟨b5, 0, none⟩), .pointer (some ⟨b3, 0, none⟩)]] w fun e w' => ∃ c h, e = .returned (.map (some c)) ∧ MapI Tryz.prog 3 EB c (n + 1000 * nr) h w' ∧ Ext w w' ∧ ∀ x, h x = some true ↔ (S x ∨ ∃ u ∈ R, x ∈ findL L u) := by
  have p1 := hR.ptr
  have n1 := hR.small
  have l1 := hR.nS
  have HA := Lib.hid hA; clear hA
  have HF := Lib.hid hf; clear hf
  have HL := Lib.hid hL; clear hL
  have HOK := Lib.hid hok; clear hok
  have HR := Lib.hid hR; clear hR
  have L1 := Lib.hid l1; clear l1
  have H5 := Lib.hid h5; clear h5
  have H3 := Lib.hid h3; clear h3
  go_enter Tryz.func66, Tryz.ntmps66
  go_wp2
  go_loopw [0, 8, 11] (fun v _ i wr => ∃ (k b : Nat) (g : Int → Option Bool), k ≤ nr ∧ i = .int .i64 k ∧ v = .map (some b) ∧ Ext w wr ∧ MapI Tryz.prog 3 EB b (n + 1000 * k) g wr ∧ ∀ x, g x = some true ↔ (S x ∨ ∃ u ∈ R.take k, x ∈ findL L u)) (fun _ _ i _ => nr - (intOf i).toNat)
  case atStart => exact ⟨0, a, f, Nat.zero_le _, rfl, rfl, Below.refl _ _, HA.out, fun x => by rw [HF.out]; simp⟩
  case round =>
    obtain ⟨k, b, g, hk, rfl, rfl, hE, hM, hg⟩ := hrel
    have HE := Lib.hid hE; clear hE
    have HM := Lib.hid hM; clear hM
    have HG := Lib.hid hg; clear hg
    by_cases hlt : k < nr
    · have g1 := HE.out.cell (HR.out.cS hlt)
      have d1 : (0:Int) ≤ k := by omega
      have d2 : (k:Int) < nr := by omega
      go_wp2_with (go_at_call 68; go_must (refine (closAny b (n + 1000 * k) g _ (nth R k) b5 b3 p np cp hs L _ HM.out HG.out (HE.out.cell H5.out) (HE.out.cell H3.out) (HL.out.ext HE.out) HOK.out (by omega)).mono ?_; rintro e w2 ⟨c, h, rfl, S1, hh⟩; have S2 := Lib.hid S1; have HH := Lib.hid hh; clear S1 hh))
      go_roundw
      case rel => exact ⟨k + 1, c, h, by omega, by go_num, rfl, Ext.trans HE.out S2.out.ext, (S2.out.map 0 rfl).mono (by omega), fun x => by
        rw [HH.out, take_succ_nth R k (by rw [← L1.out]; exact hlt)]
        simp only [List.mem_append, List.mem_singleton]
        constructor
        · rintro ((h1 | ⟨u, hu, h2⟩) | h3)
          · exact .inl h1
          · exact .inr ⟨u, .inl hu, h2⟩
          · exact .inr ⟨_, .inr rfl, h3⟩
        · rintro (h1 | ⟨u, hu | hu, h2⟩)
          · exact .inl (.inl h1)
          · exact .inl (.inr ⟨u, hu, h2⟩)
          · subst hu; exact .inr h2⟩
      case measure => simp [intOf]; omega
    · obtain rfl : k = nr := by omega
      go_wp2
      go_ret
      exact ⟨b, g, rfl, HM.out, HE.out, fun x => by rw [HG.out, List.take_of_length_le (by rw [← L1.out]; omega)]⟩
/-- the places of any word -/
def anyS (L : List Po) (ws : List ByteArray) : List Int := putAll ltI (ws.flatMap (findL L))
theorem anyS_mem {L : List Po} {ws : List ByteArray} {x : Int} (h : 0 < ws.length) : (x ∈ ws.flatMap (findL L)) ↔ (x ∈ findL L (nth ws 0) ∨ ∃ u ∈ ws.drop 1, x ∈ findL L u) := by
  have e : ws = nth ws 0 :: ws.drop 1 := by
    have := drop_nth ws 0 h
    rwa [List.drop_zero] at this
  conv => lhs; rw [e]
  rw [List.flatMap_cons, List.mem_append, List.mem_flatMap]
def FouAny (L : List Po) (ws : List ByteArray) (nr : Nat) (i : Nat) (v : Value) (W : World) : Prop :=
  match i with
  | 4 => ∃ q c, v = .slice q (findL L (nth ws 0)).length c ∧ Rd W 1 q (findL L (nth ws 0)).length (encI (findL L (nth ws 0)))
  | 5 => ∃ b f, v = .map (some b) ∧ MapI Tryz.prog 3 EB b 1000 f W ∧ ∀ x, f x = some true ↔ x ∈ findL L (nth ws 0)
  | 9 => ∃ b f, v = .map (some b) ∧ MapI Tryz.prog 3 EB b (1000 + 1000 * nr) f W ∧ ∀ x, f x = some true ↔ (x ∈ findL L (nth ws 0) ∨ ∃ u ∈ ws.drop 1, x ∈ findL L u)
  | _ => True
theorem FouAny_mono {L : List Po} {ws : List ByteArray} {nr : Nat} : ∀ i v W W', Ext W W' → FouAny L ws nr i v W → FouAny L ws nr i v W' := by
  intro i v W W' he h
  unfold FouAny at *
  split at h
  · obtain ⟨q, c, h1, h2⟩ := h; exact ⟨q, c, h1, h2.ext he⟩
  · obtain ⟨b, f, h1, h2, h3⟩ := h; exact ⟨b, f, h1, h2.ext he, h3⟩
  · obtain ⟨b, f, h1, h2, h3⟩ := h; exact ⟨b, f, h1, h2.ext he, h3⟩
  · trivial
set_option maxRecDepth 100000 in
set_option maxHeartbeats 2000000 in
theorem foundAny (p : Option Addr) (np cp : Nat) (hs : List Hd) (L : List Po) (pr : Option Addr) (nr cr : Nat) (ws : List ByteArray) (w : World) (hL : RdP w p np hs L) (hok : PoOk L) (hR : Rd w 1 pr nr (encS ws)) (hcr : nr ≤ cr) (h0 : 0 < nr) (hn : nr ≤ 100) :
    Calls Tryz.prog 44 #[.slice p np cp, .slice pr nr cr, .func (.func 47) #[] #[]] w fun e w' => ∃ q c, e = .returned (.tuple #[.slice q (anyS L ws).length c, .int .i64 0]) ∧ Sep w w' [.own 3 1 q (anyS L ws).length c (encI (anyS L ws))] := by
  obtain ⟨l0, hl0⟩ : ∃ l0, l0 = ws.flatMap (findL L) := ⟨_, rfl⟩
  have hal : anyS L ws = putAll ltI l0 := by rw [hl0]; rfl
  rw [hal]
  have HMEM : Hid (∀ x, x ∈ l0 ↔ (x ∈ findL L (nth ws 0) ∨ ∃ u ∈ ws.drop 1, x ∈ findL L u)) := fun x => by rw [hl0]; exact anyS_mem (by rw [← hR.nS]; exact h0)
  clear hal hl0
  have HFO := Lib.hid (findL_ok hok (nth ws 0))
  have p1 := hR.ptr
  have n1 := hR.small
  have g1 := hR.cS h0
  have HRC : Hid (Rd w 1 (cutp pr cr 1 1) (nr - 1) (encS (ws.drop 1))) := by
    have := hR.cut (l := 1) (h := nr) (by omega) (Nat.le_refl _) hcr
    rw [encS_drop, List.take_of_length_le (by rw [encS_len, List.length_drop, hR.nS]; omega)] at this
    exact this
  have L1 := Lib.hid hR.nS
  clear hR
  have HL := Lib.hid hL; clear hL
  have HOK := Lib.hid hok; clear hok
  have S0 := Lib.hid (((Sep.start w).al #[.slice p np cp] 30 w.heap.size rfl).al #[.func (.func 47) #[] #[]] 81 (w.heap.size + 1) (by simp))
  have hne : ((nr : Int) == 0) = false := by simp; omega
  have d1 : (1:Int) ≤ nr := by omega
  have d2 : (0:Int) < nr := by omega
  have d3 : (nr:Int) ≤ cr := by omega
  go_enter Tryz.func44, Tryz.ntmps44
  go_wp2
  obtain ⟨X, hX⟩ : ∃ X, X = ((w.alloc (.cells #[.slice p np cp] 30)).alloc (.cells #[.func (.func 47) #[] #[]] 81)) := ⟨_, rfl⟩
  have SX := S0.out
  rw [← hX] at SX ⊢
  have HX := Lib.hid SX.ext
  have c3 := (SX.blk 1 rfl).cell 0
  have c5 := (SX.blk 0 rfl).cell 0
  have g2 := HX.out.cell g1
  clear hX S0 g1 SX
  have H3 : Hid (X.cell? ⟨w.heap.size, 0, none⟩ = some (.slice p np cp)) := c3
  have H5 : Hid (X.cell? ⟨w.heap.size + 1, 0, none⟩ = some (.func (.func 47) #[] #[])) := c5
  have x3 := fun x : ExtOf X => x.ext.cell c3
  have x5 := fun x : ExtOf X => x.ext.cell c5
  have xg := fun x : ExtOf X => x.ext.cell g2
  refine wp_region_mix [true, true, true, true, false, false, true, true, true, false] (FouAny L ws nr) (by kernel_rfl) (by kernel_rfl) (by kernel_rfl) FouAny_mono ?_
  simp only [nfM]
  repeat (go_big_quiet_step ((fail)))
  refine wpQuiet_nil ⟨⟨fun vs W hE hd => ?_, fun vs W hE hd => ?_, fun vs W hE hd => ?_, trivial⟩, fun vs W hE hkn => ?_⟩
  · simp [putM, execOp, go_sem]
    exact (FindG p np cp hs L _ W ((HL.out.ext HX.out).ext hE) HOK.out).mono fun e w' ⟨q, c, h1, h2⟩ => ⟨_, h1, ⟨q, c, rfl, h2.rd 0 rfl (by have := HFO.out.1; omega)⟩, h2.ext⟩
  · obtain ⟨q, c, e1, e2⟩ := hd 4 (by decide) rfl
    simp [putM, execOp, go_sem, e1]
    exact (ofG q _ c _ W e2 HFO.out.2 (by have := HFO.out.1; omega)).mono fun e w' ⟨b, g, h1, h2, h3⟩ => ⟨_, h1, ⟨b, g, rfl, (h2.map 0 rfl).mono HFO.out.1, h3⟩, h2.ext⟩
  · obtain ⟨b, g, e1, e2, e3⟩ := hd 5 (by decide) rfl
    simp [putM, execOp, go_sem, e1]
    exact (foldAny b 1000 g _ (ws.drop 1) (cutp pr cr 1 1) (nr - 1) (cr - 1) (w.heap.size + 1) w.heap.size p np cp hs L W e2 e3 ((HRC.out.ext HX.out).ext hE) (hE.cell H5.out) (hE.cell H3.out) ((HL.out.ext HX.out).ext hE) HOK.out (by omega)).mono fun e w' ⟨c, h, h1, h2, h3, h4⟩ => ⟨_, h1, ⟨c, h, rfl, h2.mono (by omega), h4⟩, h3⟩
  · obtain ⟨⟨_, _, k1, _⟩, ⟨_, _, k2, _⟩, ⟨b, f, k3, k4, k5⟩, _⟩ := hkn
    have HK4 := Lib.hid k4
    have HE := Lib.hid (Ext.trans HX.out hE)
    have HK5 : Hid (∀ x, f x = some true ↔ x ∈ l0) := fun x => by rw [k5, HMEM.out]
    simp only [putM, k1, k2, k3, List.length_cons, List.length_nil, Nat.zero_add, Nat.reduceAdd, List.drop_succ_cons, List.drop_zero]
    clear x5 x3 xg k1 k2 k3 k4 k5 hE c3 c5 g2
    go_wp2_with (go_at_call 69; go_must (refine (risingG b _ f _ _ HK4.out HK5.out (by omega)).mono ?_; rintro e w2 ⟨q, c, rfl, S1⟩; have S2 := Lib.hid (((Sep.start w).call HE.out).comp S1); clear S1))
    go_ret2
    exact ⟨q, c, rfl, S2.out⟩
theorem foundAny0 (p : Option Addr) (np cp : Nat) (pr : Option Addr) (cr : Nat) (w : World) :
    Calls Tryz.prog 44 #[.slice p np cp, .slice pr 0 cr, .func (.func 47) #[] #[]] w fun e w' => e = .returned (.tuple #[.slice none 0 0, .int .i64 1]) ∧ Ext w w' := by
  go_enter Tryz.func44, Tryz.ntmps44
  go_wp2
  go_ret2
  exact ⟨rfl, Ext.alloc (Ext.alloc (Below.refl _ _) _) _⟩
end Go.Proofs.YtcjkechemjdboaaGreat
/- The reference's answers of chapter 5: In, Both, All, Any; Ints. -/
namespace Go.Proofs.YtcjkechemjdboaaGreat
open Go Go.RowKit Go.Maps
set_option maxHeartbeats 400000 in
theorem Ints01 (p q : Option Addr) (n m c d : Nat) (ss ts : List Int) (w : World) (hs : Rd w 1 p n (encI ss)) (ht : Rd w 1 q m (encI ts)) :
    Calls Tryz.prog 21 #[.slice p n c, .slice q m d] w fun e w' => e = .returned (.bool (decide (ss = ts))) ∧ Ext w w' := by
  have hp := hs.ptr
  have hq := ht.ptr
  have hn := hs.small
  have hm := ht.small
  have HS := Lib.hid hs; clear hs
  have HT := Lib.hid ht; clear ht
  have L1 := Lib.hid HS.out.nI
  have L2 := Lib.hid HT.out.nI
  by_cases hnm : n = m
  · subst hnm
    have hl := Lib.hid (L1.out.symm.trans L2.out)
    go_enter Tryz.func21, Tryz.ntmps21
    go_wp2
    go_loopw [5] (fun i wr => ∃ k : Nat, k ≤ n ∧ i = .int .i64 k ∧ ss.take k = ts.take k ∧ Ext w wr) (fun i _ => n - (intOf i).toNat)
    case atStart => exact ⟨0, Nat.zero_le _, rfl, rfl, Below.refl _ _⟩
    case round =>
      obtain ⟨k, hk, rfl, he, hb⟩ := hrel
      have HE := Lib.hid he; clear he
      have HB := Lib.hid hb; clear hb
      by_cases hlt : k < n
      · have g3 := HB.out.cell (HS.out.cI hlt)
        have g4 := HB.out.cell (HT.out.cI hlt)
        have d1 : (0:Int) ≤ k := by omega
        have d2 : (k:Int) < n := by omega
        by_cases hne : nth ss k = nth ts k
        · have hb1 : (nth ss k != nth ts k) = false := by simp [hne]
          have HN := Lib.hid hne; clear hne
          go_wp2
          go_quiet (fail)
          go_wp2
          go_roundw
          case rel => exact ⟨k + 1, by omega, by go_num, eq_step hl.out (by rw [← L1.out]; exact hlt) HE.out HN.out, HB.out.drewN _⟩
          case measure => simp [intOf]; omega
        · have hb1 : (nth ss k != nth ts k) = true := by simp [hne]
          have HN := Lib.hid hne; clear hne
          go_wp2
          go_quiet (fail)
          go_wp2
          go_ret
          exact ⟨ret_bool (by rw [decide_eq_false (eq_no hl.out (by rw [← L1.out]; exact hlt) HN.out)]), HB.out.drewN _⟩
      · go_wp2
        go_ret
        exact ⟨ret_bool (by rw [decide_eq_true (eq_end hl.out (by rw [← L1.out]; exact hlt) HE.out)]), HB.out⟩
  · have h1 : ((n : Int) != (m : Int)) = true := by rw [bne_iff_ne]; omega
    have hne : ss ≠ ts := by rintro rfl; exact hnm (L1.out.trans L2.out.symm)
    have HN := Lib.hid hne; clear hne hnm
    go_enter Tryz.func21, Tryz.ntmps21
    go_wp2
    go_ret
    exact ⟨ret_bool (by rw [decide_eq_false HN.out]), Below.refl _ _⟩
def inB (l : List Int) (x : Int) : Bool := l.any fun y => y == x
theorem inB_iff (l : List Int) (x : Int) : inB l x = true ↔ x ∈ l := by unfold inB; simp
theorem In05 (p : Option Addr) (n c : Nat) (l : List Int) (x : Int) (w : World) (hl : Rd w 1 p n (encI l)) :
    Calls Tryz.prog 9 #[.slice p n c, .int .i64 x] w fun e w' => e = .returned (.bool (inB l x)) ∧ w = w' := by
  have p1 := hl.ptr
  have n1 := hl.small
  have l1 := hl.nI
  have HL := Lib.hid hl; clear hl
  have L1 := Lib.hid l1; clear l1
  go_enter Tryz.func9, Tryz.ntmps9
  go_wp2
  go_loop [5] (fun i => ∃ k : Nat, k ≤ n ∧ i = .int .i64 k ∧ (l.take k).any (fun y => y == x) = false) (fun i => n - (intOf i).toNat)
  case atStart => exact ⟨0, Nat.zero_le _, rfl, rfl⟩
  case round =>
    obtain ⟨k, hk, rfl, ha⟩ := hrel
    have HA := Lib.hid ha; clear ha
    by_cases hlt : k < n
    · have g1 := HL.out.cI hlt
      have d1 : (0:Int) ≤ k := by omega
      have d2 : (k:Int) < n := by omega
      cases hq : (nth l k == x) with
      | true =>
        have HF := Lib.hid (any_true_at (fun y => y == x) l k (by rw [← L1.out]; exact hlt) hq)
        go_wp2
        go_ret
        exact ⟨ret_bool HF.out.symm, rfl⟩
      | false =>
        have HF := Lib.hid (any_step (fun y => y == x) l k (by rw [← L1.out]; exact hlt) HA.out hq)
        go_wp2
        go_round
        case rel => exact ⟨k + 1, by omega, by go_num, HF.out⟩
        case measure => simp [intOf]; omega
    · have HF := Lib.hid (any_end _ l k (by rw [← L1.out]; exact hlt) HA.out)
      go_wp2
      go_ret
      exact ⟨ret_bool HF.out.symm, rfl⟩
def bothS (a b : List Int) : List Int := putAll ltI (a.filter (inB b))
theorem filter_take_succ {α : Type} [Inhabited α] (f : α → Bool) (l : List α) (k : Nat) (h : k < l.length) : (l.take (k + 1)).filter f = (l.take k).filter f ++ (if f (nth l k) then [nth l k] else []) := by
  rw [take_succ_nth l k h, List.filter_append, List.filter_cons]; rfl
theorem filter_len_le {α : Type} (f : α → Bool) (l : List α) (k : Nat) : ((l.take k).filter f).length ≤ k := Nat.le_trans (List.length_filter_le _ _) (by rw [List.length_take]; omega)
end Go.Proofs.YtcjkechemjdboaaGreat
/- The reference's All and Any; the program's, in the same words. -/
namespace Go.Proofs.YtcjkechemjdboaaGreat
open Go Go.RowKit Go.Maps
def allK (L : List Po) (ws : List ByteArray) (k : Nat) : List Int := putAll ltI ((findL L (nth ws 0)).filter fun x => (ws.take k).all fun u => (findL L u).contains x)
theorem allK_mem {L : List Po} {ws : List ByteArray} {k : Nat} {x : Int} : x ∈ allK L ws k ↔ (x ∈ findL L (nth ws 0) ∧ ∀ u ∈ ws.take k, x ∈ findL L u) := by
  unfold allK
  rw [putAll_mem stoI, List.mem_filter, List.all_eq_true]
  simp
theorem allK_one {L : List Po} {ws : List ByteArray} (h : 0 < ws.length) : allK L ws 1 = putAll ltI (findL L (nth ws 0)) := by
  refine rises_uniq stoI _ _ (putAll_rises stoI _) (putAll_rises stoI _) fun x => ?_
  rw [allK_mem, putAll_mem stoI, take_succ_nth ws 0 h]
  simp
theorem allK_step {L : List Po} {ws : List ByteArray} {k : Nat} (h : k < ws.length) : bothS (allK L ws k) (findL L (nth ws k)) = allK L ws (k + 1) := by
  refine rises_uniq stoI _ _ (putAll_rises stoI _) (putAll_rises stoI _) fun x => ?_
  rw [allK_mem]
  unfold bothS
  rw [putAll_mem stoI, List.mem_filter, allK_mem, inB_iff, take_succ_nth ws k h]
  constructor
  · rintro ⟨⟨h1, h2⟩, h3⟩
    refine ⟨h1, fun u hu => ?_⟩
    rcases List.mem_append.1 hu with hu | hu
    · exact h2 u hu
    · rw [List.mem_singleton] at hu; subst hu; exact h3
  · rintro ⟨h1, h2⟩
    exact ⟨⟨h1, fun u hu => h2 u (List.mem_append_left _ hu)⟩, h2 _ (by simp)⟩
theorem allK_len {L : List Po} (hok : PoOk L) (ws : List ByteArray) (k : Nat) : (allK L ws k).length ≤ 1000 := by
  unfold allK
  exact Nat.le_trans (putAll_len _ _) (Nat.le_trans (List.length_filter_le _ _) (findL_ok hok _).1)
theorem allK_end {L : List Po} {ws : List ByteArray} {k : Nat} (h : ws.length ≤ k) : allK L ws k = allS L ws := by
  unfold allK allS; rw [List.take_of_length_le h]
theorem flat_len {L : List Po} (hok : PoOk L) (ws : List ByteArray) : (ws.flatMap (findL L)).length ≤ 1000 * ws.length := by
  induction ws with
  | nil => simp
  | cons a ws ih => rw [List.flatMap_cons, List.length_append, List.length_cons]; have := (findL_ok hok a).1; omega
theorem flat_step {L : List Po} {ws : List ByteArray} {k : Nat} (h : k < ws.length) : (ws.take (k + 1)).flatMap (findL L) = (ws.take k).flatMap (findL L) ++ findL L (nth ws k) := by
  rw [take_succ_nth ws k h, List.flatMap_append]; simp
theorem AllG (p : Option Addr) (np cp : Nat) (hs : List Hd) (L : List Po) (pr : Option Addr) (nr cr : Nat) (ws : List ByteArray) (w : World) (hL : RdP w p np hs L) (hok : PoOk L) (hR : Rd w 1 pr nr (encS ws)) (hcr : nr ≤ cr) (h0 : 0 < nr) (hn : nr ≤ 100) :
    Calls Tryz.prog 18 #[.slice p np cp, .slice pr nr cr] w fun e w' => ∃ q c, e = .returned (.tuple #[.slice q (allS L ws).length c, .int .i64 0]) ∧ Sep w w' [.own 3 1 q (allS L ws).length c (encI (allS L ws))] := by
  have HF := Lib.hid (foundAll p np cp hs L pr nr cr ws w hL hok hR hcr h0 hn)
  clear hL hok hR
  go_enter Tryz.func18, Tryz.ntmps18
  go_wp2_with (go_at_call 44; go_must (refine HF.out.mono ?_; rintro e w2 ⟨q1, c1, rfl, T⟩; have S2 := Lib.hid T; clear T))
  go_ret2
  exact ⟨q1, c1, rfl, S2.out⟩
theorem AnyG (p : Option Addr) (np cp : Nat) (hs : List Hd) (L : List Po) (pr : Option Addr) (nr cr : Nat) (ws : List ByteArray) (w : World) (hL : RdP w p np hs L) (hok : PoOk L) (hR : Rd w 1 pr nr (encS ws)) (hcr : nr ≤ cr) (h0 : 0 < nr) (hn : nr ≤ 100) :
    Calls Tryz.prog 19 #[.slice p np cp, .slice pr nr cr] w fun e w' => ∃ q c, e = .returned (.tuple #[.slice q (anyS L ws).length c, .int .i64 0]) ∧ Sep w w' [.own 3 1 q (anyS L ws).length c (encI (anyS L ws))] := by
  have HF := Lib.hid (foundAny p np cp hs L pr nr cr ws w hL hok hR hcr h0 hn)
  clear hL hok hR
  go_enter Tryz.func19, Tryz.ntmps19
  go_wp2_with (go_at_call 44; go_must (refine HF.out.mono ?_; rintro e w2 ⟨q1, c1, rfl, T⟩; have S2 := Lib.hid T; clear T))
  go_ret2
  exact ⟨q1, c1, rfl, S2.out⟩
theorem AllGn (p : Option Addr) (np cp : Nat) (pr : Option Addr) (cr : Nat) (w : World) : Calls Tryz.prog 18 #[.slice p np cp, .slice pr 0 cr] w fun e w' => e = .returned (.tuple #[.slice none 0 0, .int .i64 1]) ∧ Ext w w' := by
  go_enter Tryz.func18, Tryz.ntmps18
  go_wp2_with (go_at_call 44; go_must (refine (foundAll0 p np cp pr cr _).mono ?_; rintro e w2 ⟨rfl, T⟩; have S2 := Lib.hid T; clear T))
  go_ret2
  exact ⟨rfl, S2.out⟩
theorem AnyGn (p : Option Addr) (np cp : Nat) (pr : Option Addr) (cr : Nat) (w : World) : Calls Tryz.prog 19 #[.slice p np cp, .slice pr 0 cr] w fun e w' => e = .returned (.tuple #[.slice none 0 0, .int .i64 1]) ∧ Ext w w' := by
  go_enter Tryz.func19, Tryz.ntmps19
  go_wp2_with (go_at_call 44; go_must (refine (foundAny0 p np cp pr cr _).mono ?_; rintro e w2 ⟨rfl, T⟩; have S2 := Lib.hid T; clear T))
  go_ret2
  exact ⟨rfl, S2.out⟩
end Go.Proofs.YtcjkechemjdboaaGreat
/- Postings in memory of their own; the same; too many; few words. -/
namespace Go.Proofs.YtcjkechemjdboaaGreat
open Go Go.RowKit Go.Maps
theorem own_small {w : World} {base : Nat} {e : TypeId} {size : Nat} {q : Option Addr} {n c : Nat} {xs : List Value} (h : w.ownsRow base e size (.slice q n c) n xs) : n ≤ 9223372036854775807 := by
  rcases h.2 with ⟨_, h2⟩ | ⟨g, cap, cur, h1, _, _, h3, h4, _⟩
  · omega
  · unfold maxLen at h4; omega
def encPo (L : List Po) (hs : List Hd) : List Value := (L.zip hs).flatMap fun x => [.string x.1.1, x.2.v]
theorem encPo_len : ∀ (L : List Po) (hs : List Hd), hs.length = L.length → (encPo L hs).length = L.length * 2
  | [], _, _ => by simp [encPo]
  | p :: L, [], h => by simp at h
  | p :: L, a :: hs, h => by
    have := encPo_len L hs (by simpa using h)
    unfold encPo at this ⊢
    rw [List.zip_cons_cons, List.flatMap_cons, List.length_append, this, List.length_cons]; simp; omega
theorem encPo_get : ∀ (L : List Po) (hs : List Hd) (k : Nat), hs.length = L.length → k < L.length → (encPo L hs).getD (k * 2) undef = .string (nth L k).1 ∧ (encPo L hs).getD (k * 2 + 1) undef = (nth hs k).v
  | [], _, k, _, h => by simp at h
  | p :: L, [], _, h, _ => by simp at h
  | p :: L, a :: hs, 0, _, _ => ⟨rfl, rfl⟩
  | p :: L, a :: hs, k + 1, h, hk => by
    have := encPo_get L hs k (by simpa using h) (by simpa using hk)
    have e1 : (k + 1) * 2 = k * 2 + 1 + 1 := by omega
    have e2 : nth (p :: L) (k + 1) = nth L k := rfl
    have e3 : nth (a :: hs) (k + 1) = nth hs k := rfl
    rw [e1, e2, e3]
    exact this
theorem encPo_snoc (L : List Po) (hs : List Hd) (p : Po) (a : Hd) (h : hs.length = L.length) : encPo (L ++ [p]) (hs ++ [a]) = encPo L hs ++ [.string p.1, a.v] := by
  unfold encPo
  rw [List.zip_append h.symm, List.flatMap_append]; rfl
def rowsP (L : List Po) (hs : List Hd) : List (Hd × List Value) := hs.zip (L.map fun p => encI p.2)
theorem rowsP_snoc (L : List Po) (hs : List Hd) (p : Po) (a : Hd) (h : hs.length = L.length) : rowsP (L ++ [p]) (hs ++ [a]) = rowsP L hs ++ [(a, encI p.2)] := by
  unfold rowsP
  rw [List.map_append, List.zip_append (by simpa using h)]; rfl
theorem rowsP_at {L : List Po} {hs : List Hd} {k : Nat} (h : hs.length = L.length) (hk : k < L.length) : (nth hs k, encI (nth L k).2) ∈ rowsP L hs := by
  unfold rowsP
  rw [List.mem_iff_getElem]
  refine ⟨k, by simp; omega, ?_⟩
  rw [List.getElem_zip, nth_eq (by omega), nth_eq hk, List.getElem_map]
theorem RdP.of_sep {w0 w : World} {Γ : List Pc} (S : Sep w0 w Γ) (j i : Nat) {q : Option Addr} {n c : Nat} {hs : List Hd} {L : List Po} (hj : Γ[j]? = some (.many 3 1 (rowsP L hs))) (hi : Γ[i]? = some (.own 55 2 q n c (encPo L hs))) (hl : hs.length = L.length) : RdP w q n hs L := by
  have ho := S.own i hi
  have hr := Rd.of_own ho (own_small ho)
  have hn : n = L.length := by have := ho.1; rw [encPo_len L hs hl] at this; omega
  refine ⟨hn, hr.ptr, hr.small, fun k hk => ?_, fun k hk => ?_, fun k hk => ?_⟩
  · rw [hr.cells (k * 2) (by omega), (encPo_get L hs k hl (by omega)).1]
  · rw [hr.cells (k * 2 + 1) (by omega), (encPo_get L hs k hl (by omega)).2]; rfl
  · have h1 := S.manyAt j hj _ (rowsP_at hl (show k < L.length by omega))
    exact Rd.of_own h1 (own_small h1)
theorem infP : (Tryz.prog.info? 55).map (fun i => (i.zero, i.size, i.bytes)) = some (some (.agg #[.string ByteArray.empty, .slice none 0 0]), 2, 40) := by kernel_rfl
theorem one_P (a : ByteArray) (p : Option Addr) (m d : Nat) : ∀ u ∈ [Value.string a, Value.slice p m d], u.oneCell' = true := by intro u hu; simp at hu; rcases hu with rfl | rfl <;> rfl
end Go.Proofs.YtcjkechemjdboaaGreat
/- The library's sort of texts, onto a row of the call's own. -/
namespace Go.Proofs.YtcjkechemjdboaaGreat
open Go Go.RowKit Go.Shelf Go.Lib Go.Sort
theorem bl_lt : ∀ a b : List UInt8, Op.bytesLess a b = decide (a < b)
  | [], [] => by simp [Op.bytesLess]
  | [], _ :: _ => by simp [Op.bytesLess]
  | _ :: _, [] => by simp [Op.bytesLess]
  | a :: x, b :: y => by
    have ih := bl_lt x y
    rw [Bool.eq_iff_iff]
    simp only [Op.bytesLess, Bool.or_eq_true, Bool.and_eq_true, decide_eq_true_eq, beq_iff_eq, List.cons_lt_cons_iff]
    rw [ih, decide_eq_true_eq]
def toBA (x : List UInt8) : ByteArray := ⟨x.toArray⟩
theorem toBA_toList (x : List UInt8) : (toBA x).toList = x := by rw [ByteArray.toList_eq]; simp [toBA]
theorem putRow_gen {α : Type} [Inhabited α] (enc : α → Value) (w : World) (g : Nat) (l : List α) : putRow enc w g 0 l.toArray = putRow id w g 0 (l.map enc).toArray := by
  unfold putRow
  congr 1
  funext c
  unfold putCells
  apply Array.ext_getElem?
  intro i
  simp only [Array.getElem?_mapIdx]
  cases c[i]? with
  | none => rfl
  | some v =>
    simp only [Option.map_some]
    by_cases h : i < l.length
    · simp [h]
    · simp [h]
def sortT (l : List ByteArray) : List ByteArray := ((l.map fun s => s.data.toList).mergeSort fun x y => decide (x ≤ y)).map toBA
theorem sortT_len (l : List ByteArray) : (sortT l).length = l.length := by simp [sortT]
theorem toBA_data (s : ByteArray) : toBA s.data.toList = s := by simp [toBA]
theorem sortT_perm (l : List ByteArray) : (sortT l).Perm l := by
  unfold sortT
  have h := (List.mergeSort_perm (l.map fun s : ByteArray => s.data.toList) fun x y => decide (x ≤ y)).map toBA
  rw [List.map_map] at h
  have e : (toBA ∘ fun s : ByteArray => s.data.toList) = id := by funext s; exact toBA_data s
  rw [e, List.map_id] at h
  exact h
theorem sortT_rises {l : List ByteArray} (h : l.Nodup) : Rises sLess (sortT l) := by
  have h2 : (sortT l).Nodup := (sortT_perm l).nodup_iff.2 h
  have h1 : (sortT l).Pairwise fun a b => sLess b a = false := by
    unfold sortT
    rw [List.pairwise_map]
    have := List.pairwise_mergeSort (le := fun x y : List UInt8 => decide (x ≤ y)) (fun a b c h k => by simp only [decide_eq_true_eq] at *; exact List.le_trans h k) (fun a b => by simp only [Bool.or_eq_true, decide_eq_true_eq]; exact List.le_total a b) (l.map fun s : ByteArray => s.data.toList)
    refine this.imp ?_
    intro a b hab
    simp only [decide_eq_true_eq] at hab
    show Op.bytesLess (toBA b).toList (toBA a).toList = false
    rw [toBA_toList, toBA_toList, bl_lt]
    simpa using hab
  refine (h1.and h2).imp ?_
  rintro a b ⟨h3, h4⟩
  cases h5 : sLess a b with
  | true => rfl
  | false => exact (h4 (sLess_tri a b h5 h3)).elim
theorem sortT_put {l s : List ByteArray} (h : l.Nodup) (hm : ∀ x, x ∈ l ↔ x ∈ s) : sortT l = putAll sLess s :=
  rises_uniq stoS _ _ (sortT_rises h) (putAll_rises stoS s) fun x => by rw [(sortT_perm l).mem_iff, hm, putAll_mem stoS]
theorem SortTx (base : Nat) (q : Option Addr) (n c : Nat) (l : List ByteArray) (w : World) (ho : w.ownsRow base 9 1 (.slice q n c) n (encS l)) (hn : n ≤ 1000000) :
    Calls Tryz.prog 17 #[.slice q n c] w fun e w' => e = .returned (.tuple #[]) ∧ w'.ownsRow base 9 1 (.slice q n c) n (encS (sortT l)) ∧ w.grownBy w' (blkOf q) := by
  have hl : n = l.length := by have := ho.1; rw [encS_len] at this; omega
  by_cases h0 : n = 0
  · subst h0
    have hnil : l = [] := List.eq_nil_of_length_eq_zero hl.symm
    subst hnil
    refine (Any.slices_Sort_string_none Tryz.sortT q c w).mono ?_
    rintro e w' ⟨he, rfl⟩
    exact ⟨he, by simpa [sortT] using ho, World.grownBy.refl _ _⟩
  · obtain ⟨g, hq, hg⟩ := own_block ho h0
    subst hq
    have hH : Holds encStr w g 0 (l.map fun s => s.data.toList).toArray := by
      intro j hj
      have hj2 : j < l.length := by simpa using hj
      have := holdsS ho hn j (by simpa using hj2)
      rw [getElem!_pos _ j (by simpa using hj2)] at this
      rw [getElem!_pos _ j hj]
      simpa [encStr] using this
    have hcon := Any.slices_Sort_string Tryz.sortT g 0 c (l.map fun s => s.data.toList) w hH hg (by simp; omega)
    rw [List.length_map, ← hl] at hcon
    refine hcon.mono ?_
    rintro e w' ⟨he, m, os, rfl⟩
    have hp := own_put ho (ys := encS (sortT l)) (by rw [encS_len, sortT_len, hl, Nat.mul_one]) m os
    rw [putRow_gen]
    have e1 : ((l.map fun s => s.data.toList).mergeSort fun x y => decide (x ≤ y)).map encStr = encS (sortT l) := by
      unfold encS sortT; rw [List.map_map]; rfl
    rw [e1]
    exact ⟨he, hp.1, hp.2⟩
theorem SortT_sep {w0 w : World} {Γ : List Pc} (S : Sep w0 w Γ) (j : Nat) {q : Option Addr} {n c : Nat} {l : List ByteArray} (hj : Γ[j]? = some (.own 9 1 q n c (encS l))) (hn : n ≤ 1000000) :
    Calls Tryz.prog 17 #[.slice q n c] w fun e w' => e = .returned (.tuple #[]) ∧ Sep w0 w' (Γ.set j (.own 9 1 q n c (encS (sortT l)))) :=
  (SortTx _ q n c l w (S.own j hj) hn).mono fun _ _ ⟨he, ho, hg⟩ => ⟨he, S.put j hj _ hg (fun k hk => hk) (own_base ho (Nat.zero_le _)) fun k hk => .inl hk⟩
end Go.Proofs.YtcjkechemjdboaaGreat
/- What postings of a graph's words are: gathered word by word, or by definition. No program in sight. -/
namespace Go.Proofs.YtcjkechemjdboaaGreat
open Go Go.RowKit
/-- a place has a word: all such, in their order -/
abbrev Occ := Int × ByteArray
def occR (v : Nat) (l : List ByteArray) : List Occ := l.map fun s => ((v : Int), s)
def occK (W : List (List ByteArray)) (k : Nat) : List Occ := (List.range k).flatMap fun v => occR v (nth W v)
theorem occK_step (W : List (List ByteArray)) (k : Nat) : occK W (k + 1) = occK W k ++ occR k (nth W k) := by
  unfold occK; rw [List.range_succ, List.flatMap_append]; simp
theorem occR_len (v : Nat) (l : List ByteArray) : (occR v l).length = l.length := by simp [occR]
theorem occR_take (v : Nat) (l : List ByteArray) (j : Nat) (h : j < l.length) : occR v (l.take (j + 1)) = occR v (l.take j) ++ [((v : Int), nth l j)] := by
  unfold occR; rw [take_succ_nth l j h, List.map_append]; rfl
theorem occK_len {W : List (List ByteArray)} (h : ∀ l ∈ W, l.length ≤ 8) : ∀ k, k ≤ W.length → (occK W k).length ≤ 8 * k
  | 0, _ => by simp [occK]
  | k + 1, hk => by
    rw [occK_step, List.length_append, occR_len]
    have := occK_len h k (by omega)
    have h2 := h (nth W k) (by rw [nth_eq (by omega)]; exact List.getElem_mem _)
    omega
theorem occK_mem {W : List (List ByteArray)} {s : ByteArray} : (∃ x ∈ occK W W.length, x.2 = s) ↔ s ∈ W.flatten := by
  unfold occK occR
  simp only [List.mem_flatMap, List.mem_range, List.mem_map, List.mem_flatten]
  constructor
  · rintro ⟨x, ⟨v, hv, t, ht, rfl⟩, rfl⟩
    exact ⟨nth W v, by rw [nth_eq hv]; exact List.getElem_mem _, ht⟩
  · rintro ⟨l, hl, hs⟩
    obtain ⟨v, hv, rfl⟩ := List.mem_iff_getElem.1 hl
    exact ⟨((v : Int), s), ⟨v, hv, s, by rw [nth_eq hv]; exact hs, rfl⟩, rfl⟩
/-- a word's places -/
def plc (O : List Occ) (s : ByteArray) : List Int := (O.filter fun x => decide (x.2 = s)).map (·.1)
theorem plc_snoc (O : List Occ) (v : Int) (t s : ByteArray) : plc (O ++ [(v, t)]) s = if t = s then plc O s ++ [v] else plc O s := by
  unfold plc
  rw [List.filter_append, List.filter_cons]
  by_cases h : t = s <;> simp [h]
theorem plc_len (O : List Occ) (s : ByteArray) : (plc O s).length ≤ O.length := by unfold plc; rw [List.length_map]; exact List.length_filter_le _ _
theorem plc_nil {O : List Occ} {s : ByteArray} : plc O s = [] ↔ ∀ x ∈ O, x.2 ≠ s := by
  unfold plc
  rw [List.map_eq_nil_iff, List.filter_eq_nil_iff]
  simp
theorem nodup_ne {α : Type} {l : List α} (h : l.Nodup) {i j : Nat} (hi : i < l.length) (hj : j < l.length) (hne : i ≠ j) : l[i] ≠ l[j] := by
  rcases Nat.lt_or_gt_of_ne hne with h1 | h1
  · exact List.pairwise_iff_getElem.1 h i j hi hj h1
  · exact (List.pairwise_iff_getElem.1 h j i hj hi h1).symm
/-- what is gathered of the occurrences -/
structure Gath (O : List Occ) (A : List Po) : Prop where
  nodup : (A.map (·.1)).Nodup
  keys : ∀ s, s ∈ A.map (·.1) ↔ ∃ x ∈ O, x.2 = s
  at_ : ∀ p ∈ A, p.2 = plc O p.1
theorem Gath.nil : Gath [] [] := ⟨List.nodup_nil, fun s => by simp, fun p hp => by cases hp⟩
theorem Gath.new {O : List Occ} {A : List Po} (h : Gath O A) {v : Int} {s : ByteArray} (hs : s ∉ A.map (·.1)) : Gath (O ++ [(v, s)]) (A ++ [(s, [v])]) := by
  have hno : ∀ x ∈ O, x.2 ≠ s := fun x hx e => hs ((h.keys s).2 ⟨x, hx, e⟩)
  refine ⟨?_, fun t => ?_, fun p hp => ?_⟩
  · rw [List.map_append, List.nodup_append]
    refine ⟨h.nodup, by simp, fun a ha b hb => ?_⟩
    simp at hb; subst hb; rintro rfl; exact hs ha
  · rw [List.map_append, List.mem_append, h.keys t]
    constructor
    · rintro (⟨x, hx, e⟩ | ht)
      · exact ⟨x, List.mem_append_left _ hx, e⟩
      · simp at ht; subst ht; exact ⟨(v, t), by simp, rfl⟩
    · rintro ⟨x, hx, e⟩
      rcases List.mem_append.1 hx with hx | hx
      · exact .inl ⟨x, hx, e⟩
      · rw [List.mem_singleton] at hx; subst hx; right; simp [e.symm]
  · rw [plc_snoc]
    rcases List.mem_append.1 hp with hp1 | hp1
    · have hne : s ≠ p.1 := fun e => hs (by rw [e]; exact List.mem_map_of_mem hp1)
      rw [if_neg hne]; exact h.at_ p hp1
    · rw [List.mem_singleton] at hp1; subst hp1
      rw [if_pos rfl, plc_nil.2 hno]; rfl
theorem Gath.more {O : List Occ} {A : List Po} (h : Gath O A) {v : Int} {r : Nat} (hr : r < A.length) : Gath (O ++ [(v, (nth A r).1)]) (A.set r ((nth A r).1, (nth A r).2 ++ [v])) := by
  have hmap : (A.set r ((nth A r).1, (nth A r).2 ++ [v])).map (·.1) = A.map (·.1) := by
    rw [List.map_set]
    have e : (nth A r).1 = (A.map (·.1))[r]'(by simpa using hr) := by rw [nth_eq hr, List.getElem_map]
    show (A.map (·.1)).set r (nth A r).1 = _
    rw [e, List.set_getElem_self]
  refine ⟨by rw [hmap]; exact h.nodup, fun t => ?_, fun p hp => ?_⟩
  · rw [hmap, h.keys t]
    constructor
    · rintro ⟨x, hx, e⟩; exact ⟨x, List.mem_append_left _ hx, e⟩
    · rintro ⟨x, hx, e⟩
      rcases List.mem_append.1 hx with hx | hx
      · exact ⟨x, hx, e⟩
      · rw [List.mem_singleton] at hx; subst hx
        have : t ∈ A.map (·.1) := by rw [← e, nth_eq hr]; exact List.mem_map_of_mem (List.getElem_mem _)
        exact (h.keys t).1 this
  · rw [plc_snoc]
    obtain ⟨i, hi, rfl⟩ := List.mem_iff_getElem.1 hp
    rw [List.length_set] at hi
    rw [List.getElem_set]
    by_cases e : r = i
    · rw [if_pos e, if_pos rfl]
      rw [← h.at_ (nth A r) (by rw [nth_eq hr]; exact List.getElem_mem _)]
    · rw [if_neg e]
      have hne : (nth A r).1 ≠ A[i].1 := by
        rw [nth_eq hr]
        intro he
        exact nodup_ne h.nodup (i := r) (j := i) (by simpa using hr) (by simpa using hi) e (by simpa using he)
      rw [if_neg hne]; exact h.at_ _ (List.getElem_mem _)
/-- the postings of a graph's words -/
def makeP (W : List (List ByteArray)) : List Po := (putAll sLess W.flatten).map fun s => (s, plc (occK W W.length) s)
theorem Gath.sorted {W : List (List ByteArray)} {A : List Po} (h : Gath (occK W W.length) A) : sortT (A.map (·.1)) = putAll sLess W.flatten :=
  sortT_put h.nodup fun s => by rw [h.keys s, occK_mem]
theorem Gath.find {O : List Occ} {A : List Po} (h : Gath O A) {s : ByteArray} (hs : s ∈ A.map (·.1)) : ∃ r, r < A.length ∧ (nth A r).1 = s ∧ (nth A r).2 = plc O s := by
  obtain ⟨p, hp, rfl⟩ := List.mem_map.1 hs
  obtain ⟨r, hr, rfl⟩ := List.mem_iff_getElem.1 hp
  refine ⟨r, hr, by rw [nth_eq hr], ?_⟩
  rw [nth_eq hr]; exact h.at_ _ hp
theorem nodup_len {α : Type} [DecidableEq α] : ∀ {l m : List α}, l.Nodup → (∀ x ∈ l, x ∈ m) → l.length ≤ m.length
  | [], _, _, _ => by simp
  | a :: l, m, h, hm => by
    obtain ⟨h1, h2⟩ := List.nodup_cons.1 h
    have ha := hm a (by simp)
    have ih := nodup_len (m := m.erase a) h2 fun x hx => (List.mem_erase_of_ne (fun e => h1 (by rw [← e]; exact hx))).2 (hm x (by simp [hx]))
    rw [List.length_erase_of_mem ha] at ih
    have := List.length_pos_of_mem ha
    rw [List.length_cons]; omega
theorem Gath.len {O : List Occ} {A : List Po} (h : Gath O A) : A.length ≤ O.length := by
  have h1 := nodup_len (m := O.map (·.2)) h.nodup fun s hs => by
    obtain ⟨x, hx, e⟩ := (h.keys s).1 hs
    exact e ▸ List.mem_map_of_mem hx
  simpa using h1
end Go.Proofs.YtcjkechemjdboaaGreat
/- Maps with texts as keys, whatever the elements; rows that lie apart, one of which is appended to. -/
namespace Go.Proofs.YtcjkechemjdboaaGreat
open Go Go.RowKit Go.Maps Go.WideElems
/-- an element, held as it is -/
def heldR (v : Value) : Option (DataW Value × List MemPlace) := some (.held v, [])
def keyT (s : ByteArray) : Lit := .string s.data.toList
theorem keyT_inj {s t : ByteArray} (h : keyT s = keyT t) : s = t := by
  unfold keyT at h; injection h with h
  exact ByteArray.ext (Array.toList_inj.1 h)
/-- block b is a map of at most n entries that reads as f -/
def MapT (P : Program) (k : TypeId) (b n : Nat) (f : ByteArray → Option Value) (w : World) : Prop :=
  ∃ D : DataW Value, w.ownsMap P k heldR b n D ∧ (∀ s, s.size ≤ 1000000 → Maps.has D (keyT s) = (f s).isSome) ∧ ∀ s v, f s = some v → s.size ≤ 1000000 ∧ ∀ zd, D.atKey (keyT s) zd = .held v
def upT (f : ByteArray → Option Value) (s : ByteArray) (v : Value) : ByteArray → Option Value := fun t => if t = s then some v else f t
section
variable {P : Program} {k e : TypeId} {b n : Nat} {f : ByteArray → Option Value} {w w' : World}
theorem MapT.lt (h : MapT P k b n f w) : b < w.heap.size := by obtain ⟨D, h1, _⟩ := h; exact h1.lt
theorem MapT.loc (h : MapT P k b n f w) (hb : w'.heap[b]? = w.heap[b]?) : MapT P k b n f w' := by
  obtain ⟨D, ⟨es, clock, h1, F, h2, h3⟩, hf⟩ := h
  exact ⟨D, ⟨es, clock, hb.trans h1, F, h2, h3⟩, hf⟩
theorem MapT.made (w : World) : MapT P k w.heap.size 0 (fun _ => none) (w.alloc (.map #[] 0)) :=
  ⟨.map [], World.ownsMap_made w P k _, fun x _ => rfl, fun x v h => by cases h⟩
def Pc.mapT (P : Program) (k : TypeId) (b n : Nat) (f : ByteArray → Option Value) : Pc :=
  ⟨fun i => i = b, fun w => MapT P k b n f w, fun _ h i hi => by subst hi; exact h.lt, fun _ _ h hi => h.loc (hi b rfl)⟩
theorem keyT_of (hk : P.underlying k = some .string) {s : ByteArray} (hs : s.size ≤ 1000000) : keyOf P k (.string s) = some (keyT s) := WideMaps.keyOf_string_mk hk (by unfold maxLen; omega)
theorem isKeyT (hk : P.underlying k = some .string) {s : ByteArray} (hs : s.size ≤ 1000000) : WideAt.IsKeyLit (keyT s) := (string_keyed hk).key (keyT_of hk hs)
theorem MapT.update {t : TypeId} (h : MapT P k b n f w) (hk : P.underlying k = some .string) (ht : P.underlying t = some (.map k e)) (hn : n < 140737488355328) {s : ByteArray} (hs : s.size ≤ 1000000) (v : Value) :
    ∃ w', (Instr.mapUpdate t (.map (some b)) (.string s) v).run P w = .ok () w' ∧ MapT P k b (n + 1) (upT f s v) w' ∧ w.grownBy w' (some b) := by
  obtain ⟨D, h1, h2, h3⟩ := h
  obtain ⟨w', hr, ho, hg⟩ := h1.update (string_keyed hk) ht (by unfold maxLen; omega) (keyT_of hk hs) (show heldR v = some (.held v, []) from rfl)
  have hm := h1.isMap
  refine ⟨w', hr, ⟨_, ho, fun y hy => ?_, fun y u hu => ?_⟩, hg⟩
  · unfold upT
    by_cases e : y = s
    · subst e; rw [has_put_same hm (isKeyT hk hs)]; simp
    · rw [has_put_other (fun h => e (keyT_inj h)), if_neg e]; exact h2 y hy
  · unfold upT at hu
    by_cases e : y = s
    · subst e; simp at hu; subst hu; exact ⟨hs, fun zd => atKey_put_same hm (isKeyT hk hs) _ _⟩
    · rw [if_neg e] at hu
      obtain ⟨g1, g2⟩ := h3 y u hu
      exact ⟨g1, fun zd => by rw [atKey_put_other (fun h => e (keyT_inj h))]; exact g2 zd⟩
theorem MapT.lookup {t : TypeId} {z : Value} (h : MapT P k b n f w) (hk : P.underlying k = some .string) (ht : P.underlying t = some (.map k e)) (hz : (zeroValue e).run P w = .ok z w) {s : ByteArray} (hs : s.size ≤ 1000000) :
    (Instr.lookup t (.map (some b)) (.string s) false).run P w = .ok ((f s).getD z) w := by
  obtain ⟨D, h1, h2, h3⟩ := h
  obtain ⟨v, ps, hr, hv⟩ := h1.lookup (string_keyed hk) ht hz (show heldR z = some (.held z, []) from rfl) (keyT_of hk hs)
  have hat : D.atKey (keyT s) (.held z) = .held ((f s).getD z) := by
    cases hf : f s with
    | none => exact atKey_of_not_has (by rw [h2 s hs, hf]; rfl) _
    | some u => exact (h3 s u hf).2 _
  unfold heldR at hv
  injection hv with hv
  injection hv with hv
  rw [hat] at hv
  injection hv with hv
  rw [hr, hv]
variable {w0 : World} {Γ : List Pc} {ops : Array Oper} {rest : List Oper} {o : Oper} {a : Act} {Q : Exit → Act → World → Prop}
theorem Sep.mkmapT (S : Sep w0 w Γ) (P : Program) (k : TypeId) : Sep w0 (w.alloc (.map #[] 0)) (.mapT P k w.heap.size 0 (fun _ => none) :: Γ) :=
  S.comp (Δ := [.mapT P k w.heap.size 0 (fun _ => none)]) ⟨Ext.alloc (Below.refl _ _) _, fun p hp => by rw [List.mem_singleton] at hp; subst hp; exact MapT.made w, fun p hp i hi => by rw [List.mem_singleton] at hp; subst hp; have : i = w.heap.size := hi; omega, List.pairwise_singleton _ _⟩
theorem Sep.mapT (S : Sep w0 w Γ) (j : Nat) (hj : Γ[j]? = some (.mapT P k b n f)) : MapT P k b n f w := S.all _ (List.mem_of_getElem? hj)
theorem wpList_updateT_sep (hg : o.guard = none) (m x v : Operand) (t : TypeId) (hop : o.op = Op.mapUpdate t m x v) (hk : P.underlying k = some .string) (ht : P.underlying t = some (.map k e))
    (hm : a.eval m = .map (some b)) (S : Sep w0 w Γ) (j : Nat) (hj : Γ[j]? = some (.mapT P k b n f)) (hn : n < 140737488355328) (s : ByteArray) (u : Value) (hx : a.eval x = .string s) (hv : a.eval v = u) (hi : s.size ≤ 1000000)
    (hK : ∀ w', Sep w0 w' (Γ.set j (.mapT P k b (n + 1) (upT f s u))) → w.grownBy w' (some b) → wpList P ops Q rest (a.put o.dst undef) w') :
    wpList P ops Q (o :: rest) a w := by
  refine wpList_plain hg fun K' hK' => ?_
  obtain ⟨w', hrun, r1, r2⟩ := MapT.update (S.mapT j hj) hk ht hn hi u
  unfold Oper.wp
  simp [execOp, hop, hm, hx, hv, hrun, Result.andThen]
  exact hK' _ _ (hK w' (S.put j hj _ r2 (fun i hi => by injection hi with hi; exact hi.symm) r1 (fun i hi => .inl hi)) r2)
end
/-- rows that lie apart from one another -/
def apartR (r s : Hd × List Value) : Prop := ∀ k, blkOf r.1.p = some k → blkOf s.1.p ≠ some k
def Pc.rowsD (e : TypeId) (size : Nat) (rows : List (Hd × List Value)) : Pc :=
  ⟨fun k => ∃ r ∈ rows, blkOf r.1.p = some k, fun w => (∀ r ∈ rows, w.ownsRow 0 e size (.slice r.1.p r.1.n r.1.c) r.1.n r.2) ∧ rows.Pairwise apartR, fun _ h k ⟨r, hr, hk⟩ => (own_lt (h.1 r hr) hk).2, fun _ _ h hk => ⟨fun r hr => own_loc (h.1 r hr) fun k hb => hk k ⟨r, hr, hb⟩, h.2⟩⟩
section
variable {P : Program} {w0 w : World} {Γ : List Pc} {e : TypeId} {size : Nat} {rows : List (Hd × List Value)}
theorem Sep.rowsD0 (S : Sep w0 w Γ) (e : TypeId) (size : Nat) : Sep w0 w (.rowsD e size [] :: Γ) :=
  ⟨S.ext, fun p hp => by
    rcases List.mem_cons.1 hp with rfl | h
    · exact ⟨fun r hr => (nomatch hr), List.Pairwise.nil⟩
    · exact S.all p h, fun p hp k hk => by
    rcases List.mem_cons.1 hp with rfl | h
    · obtain ⟨r, hr, _⟩ := hk; cases hr
    · exact S.new p h k hk, List.pairwise_cons.2 ⟨(fun q _ k ⟨r, hr, _⟩ => nomatch hr), S.apart⟩⟩
theorem Sep.rowsAt (S : Sep w0 w Γ) (j : Nat) (hj : Γ[j]? = some (.rowsD e size rows)) : (∀ r ∈ rows, w.ownsRow 0 e size (.slice r.1.p r.1.n r.1.c) r.1.n r.2) ∧ rows.Pairwise apartR := S.all _ (List.mem_of_getElem? hj)
/-- a nil row more -/
theorem Sep.rowsNil (S : Sep w0 w Γ) (j : Nat) (hj : Γ[j]? = some (.rowsD e size rows)) : Sep w0 w (Γ.set j (.rowsD e size (rows ++ [(⟨none, 0, 0⟩, [])]))) := by
  have h := S.rowsAt j hj
  refine S.put j hj _ (World.grownBy.refl w none) (fun k hk => by cases hk) ⟨fun r hr => ?_, ?_⟩ fun k hk => ?_
  · rcases List.mem_append.1 hr with hr | hr
    · exact h.1 r hr
    · rw [List.mem_singleton] at hr; subst hr; exact World.ownsRow_nil _ _ _ _
  · rw [List.pairwise_append]
    refine ⟨h.2, List.pairwise_singleton _ _, fun r _ s hs k _ hk2 => ?_⟩
    rw [List.mem_singleton] at hs; subst hs; cases hk2
  · obtain ⟨r, hr, hk⟩ := hk
    rcases List.mem_append.1 hr with hr | hr
    · exact .inl ⟨r, hr, hk⟩
    · rw [List.mem_singleton] at hr; subst hr; cases hk
/-- **append onto one of the rows** -/
theorem wpList_append_rows {ops : Array Oper} {rest : List Oper} {o : Oper} {a : Act} {Q : Exit → Act → World → Prop} (hgd : o.guard = none) (s x : Operand) (t : TypeId)
    (ho : o.op = .call { callee := .builtin .append, args := #[s, x], argTypes := #[t, t] })
    (i : TypeInfo) (z : Value) (bytes : Nat) (ht : P.underlying t = some (.slice e)) (hi : P.info? e = some i) (hz : i.zero = some z)
    (hsize : i.size = size) (hby : i.bytes = bytes) (hzs : z.cells.size = size) (hsz : 0 < size)
    (S : Sep w0 w Γ) (j : Nat) (hj : Γ[j]? = some (.rowsD e size rows)) (r : Nat) (q : Option Addr) (n cq : Nat) (xs : List Value) (hr : rows[r]? = some (⟨q, n, cq⟩, xs)) (hs : a.eval s = .slice q n cq)
    (A : Option Addr) (m c : Nat) (news : List Value) (hx : a.eval x = .slice A m c) (hrd : Rd w size A m news) (h1 : ∀ u ∈ news, u.oneCell' = true)
    (hbytes : (n + m) * bytes ≤ 140737488355328) (h63 : n + m ≤ 140737488355328)
    (h : ∀ q' c' w', Sep w0 w' (Γ.set j (.rowsD e size (rows.set r (⟨q', n + m, c'⟩, xs ++ news)))) → w.heap.size ≤ w'.heap.size → wpList P ops Q rest (a.put o.dst (.slice q' (n + m) c')) w') : wpList P ops Q (o :: rest) a w := by
  have hrows := S.rowsAt j hj
  have hmem := List.mem_of_getElem? hr
  have hown : w.ownsRow w0.heap.size e size (.slice q n cq) n xs := own_rebase (hrows.1 _ hmem) fun k hk => S.new _ (List.mem_of_getElem? hj) k ⟨_, hmem, hk⟩
  refine wpList_append_rd hgd s x t ho w0.heap.size e i z size bytes ht hi hz hsize hby hzs hsz q n cq xs hs hown A m c news hx hrd h1 hbytes h63 S.ext.size ?_
  intro q' c' w' ho' hg hat _
  have hr1 : r < rows.length := (List.getElem?_eq_some_iff.1 hr).1
  have hnew : ∀ k, blkOf q' = some k → blkOf q = some k ∨ k = w.heap.size := fun k hk => by
    rcases hat with h | h
    · exact .inl (h.symm.trans hk)
    · have : some w.heap.size = some k := h.symm.trans hk
      injection this with this
      exact .inr this.symm
  have hset : ∀ y ∈ rows.set r (⟨q', n + m, c'⟩, xs ++ news), y = (⟨q', n + m, c'⟩, xs ++ news) ∨ ∃ i, i ≠ r ∧ rows[i]? = some y := by
    intro y hy
    obtain ⟨i, hi, rfl⟩ := List.mem_iff_getElem.1 hy
    rw [List.length_set] at hi
    rw [List.getElem_set]
    by_cases e : r = i
    · left; rw [if_pos e]
    · right; rw [if_neg e]; exact ⟨i, fun h => e h.symm, List.getElem?_eq_getElem hi⟩
  have hap : ∀ (i : Nat) y, i ≠ r → rows[i]? = some y → ∀ k, blkOf y.1.p = some k → blkOf q ≠ some k := by
    intro i y hne hy k hk hq
    obtain ⟨hi1, rfl⟩ := List.getElem?_eq_some_iff.1 hy
    obtain ⟨hr2, hre⟩ := List.getElem?_eq_some_iff.1 hr
    rcases Nat.lt_or_gt_of_ne hne with h | h
    · have := List.pairwise_iff_getElem.1 hrows.2 i r hi1 hr2 h k hk
      rw [hre] at this; exact this hq
    · have := List.pairwise_iff_getElem.1 hrows.2 r i hr2 hi1 h k (by rw [hre]; exact hq)
      exact this hk
  refine h q' c' w' (S.put j hj _ hg (fun k hk => ⟨_, hmem, hk⟩) ⟨fun y hy => ?_, ?_⟩ fun k hk => ?_) hg.size
  · rcases hset y hy with rfl | ⟨i, hne, hi⟩
    · exact own_base ho' (Nat.zero_le _)
    · have hy1 := hrows.1 y (List.mem_of_getElem? hi)
      refine own_loc hy1 fun k hk => hg.block k (own_lt hy1 hk).2 fun e => hap i y hne hi k hk e.symm
  · rw [List.pairwise_iff_getElem]
    intro a b ha hb hab k hka hkb
    rw [List.length_set] at ha hb
    rw [List.getElem_set] at hka hkb
    have key : ∀ i (hi : i < rows.length), i ≠ r → blkOf q' = some k → blkOf (rows[i]).1.p = some k → False := by
      intro i hi hne h1 h2
      rcases hnew k h1 with h | h
      · exact hap i _ hne (List.getElem?_eq_getElem hi) k h2 h
      · have := (own_lt (hrows.1 _ (List.getElem_mem hi)) h2).2; omega
    by_cases e1 : r = a
    · rw [if_pos e1] at hka
      rw [if_neg (by omega)] at hkb
      exact key b hb (by omega) hka hkb
    · rw [if_neg e1] at hka
      by_cases e2 : r = b
      · rw [if_pos e2] at hkb
        exact key a ha (fun h => e1 h.symm) hkb hka
      · rw [if_neg e2] at hkb
        exact List.pairwise_iff_getElem.1 hrows.2 a b ha hb hab k hka hkb
  · obtain ⟨y, hy, hk⟩ := hk
    rcases hset y hy with rfl | ⟨i, _, hi⟩
    · rcases hnew k hk with h | h
      · exact .inl ⟨_, hmem, h⟩
      · exact .inr (by omega)
    · exact .inl ⟨y, List.mem_of_getElem? hi, hk⟩
end
end Go.Proofs.YtcjkechemjdboaaGreat
namespace Go.Proofs.YtcjkechemjdboaaGreat
open Go Go.RowKit
set_option maxHeartbeats 400000 in
theorem WordG (s : ByteArray) (w : World) (hs : s.size ≤ 140737488355328) : Calls Tryz.prog 23 #[.string s] w fun e w' => e = .returned (.bool (wordB s)) ∧ w = w' := by
  go_enter Tryz.func23, Tryz.ntmps23
  go_wp2
  go_loop [3, 6] (fun _ i => ∃ k : Nat, k ≤ s.size ∧ i = .int .i64 k ∧ (s.data.toList.take k).all lowB = true) (fun _ i => s.size - (intOf i).toNat)
  case atStart => exact ⟨0, Nat.zero_le _, rfl, rfl⟩
  case round =>
    obtain ⟨k, hk, rfl, ha⟩ := hrel
    have HA := Lib.hid ha; clear ha
    by_cases hlt : k < s.size
    · by_cases h1 : (s[k].toNat : Int) < 97
      · go_wp2
        go_ret
        exact ⟨ret_bool (wordB_no s k hlt (by omega)), rfl⟩
      · by_cases h2 : 122 < (s[k].toNat : Int)
        · go_wp2
          go_ret
          exact ⟨ret_bool (wordB_no s k hlt (by omega)), rfl⟩
        · go_wp2
          go_round
          case rel => exact ⟨k + 1, by omega, by go_num, wordB_step s k hlt HA.out (by omega) (by omega)⟩
          case measure => simp [intOf]; omega
    · have HE := Lib.hid (wordB_end s k hlt HA.out)
      by_cases h1 : s.size = 0
      · have he : s.toList = [] := by rw [ByteArray.toList_eq]; have : s.data.size = 0 := h1; exact List.length_eq_zero_iff.1 (by simpa using this)
        have he2 : (!s.toList.isEmpty) = false := by rw [he]; rfl
        have HZ := Lib.hid h1; clear h1
        go_wp2
        go_ret
        exact ⟨ret_bool (by rw [HE.out, HZ.out]; rfl), rfl⟩
      · have he : s.toList ≠ [] := by rw [ByteArray.toList_eq]; intro h; apply h1; have : s.data.toList.length = 0 := by rw [h]; rfl
                                      simpa using this
        have he2 : (!s.toList.isEmpty) = true := by simp [he]
        go_wp2
        go_ret
        exact ⟨ret_bool (by rw [HE.out, Bool.eq_iff_iff]; simp; omega), rfl⟩
theorem isPlaceG (N : Int) (pe : Option Addr) (ne ce : Nat) (pw : Option Addr) (nw cw : Nat) (v : Int) (w : World) :
    Calls Tryz.prog 25 #[.agg #[.int .i64 N, .slice pe ne ce, .slice pw nw cw], .int .i64 v] w fun e w' => e = .returned (.bool (decide (0 ≤ v ∧ v < N))) ∧ Ext w w' := by
  by_cases h : 0 ≤ v
  · go_enter Tryz.func25, Tryz.ntmps25
    go_wp2
    go_ret
    exact ⟨ret_bool (by rw [Bool.eq_iff_iff]; simp [h]), (Below.refl _ _).alloc (Nat.le_refl _) _⟩
  · go_enter Tryz.func25, Tryz.ntmps25
    go_wp2
    go_ret
    exact ⟨ret_bool (by rw [Bool.eq_iff_iff]; simp; omega), (Below.refl _ _).alloc (Nat.le_refl _) _⟩
theorem CheckLit (s : ByteArray) (w : World) (hs : s.size ≤ 140737488355328) : Calls Tryz.prog 27 #[.string s] w fun e w' => e = .returned (.bool (!wordB s)) ∧ w = w' := by
  go_enter Tryz.func27, Tryz.ntmps27
  go_wp2_with (go_at_call 23; refine (WordG _ _ hs).mono ?_; rintro e w' ⟨rfl, rfl⟩)
  go_ret
  exact ⟨rfl, rfl⟩
set_option maxHeartbeats 400000 in
/-- the first place of a text that is no word, or -1 -/
theorem IndexWord (p : Option Addr) (n c : Nat) (l : List ByteArray) (w : World) (hl : Rd w 1 p n (encS l)) (hz : ∀ s ∈ l, s.size ≤ 1000000) :
    Calls Tryz.prog 49 #[.slice p n c, .func (.func 27) #[] #[]] w fun e w' => ∃ i : Int, e = .returned (.int .i64 i) ∧ decide (0 ≤ i) = l.any (fun s => !wordB s) ∧ w = w' := by
  have p1 := hl.ptr
  have n1 := hl.small
  have l1 := hl.nS
  have HL := Lib.hid hl; clear hl
  have L1 := Lib.hid l1; clear l1
  have HZ := Lib.hid hz; clear hz
  go_enter Tryz.func49, Tryz.ntmps49
  go_wp2
  go_loop [5, 8] (fun _ i => ∃ k : Nat, k ≤ n ∧ i = .int .i64 k ∧ (l.take k).any (fun s => !wordB s) = false) (fun _ i => n - (intOf i).toNat)
  case atStart => exact ⟨0, Nat.zero_le _, rfl, rfl⟩
  case round =>
    obtain ⟨k, hk, rfl, ha⟩ := hrel
    have HA := Lib.hid ha; clear ha
    by_cases hlt : k < n
    · have g1 := HL.out.cS hlt
      have hsz : (nth l k).size ≤ 140737488355328 := by
        have := HZ.out (nth l k) (by rw [nth_eq (by rw [← L1.out]; exact hlt)]; exact List.getElem_mem _)
        omega
      by_cases hw : (!wordB (nth l k)) = true
      · have HF := Lib.hid (any_true_at (fun s => !wordB s) l k (by rw [← L1.out]; exact hlt) hw)
        go_wp2_with (go_at_call 27; refine (CheckLit _ _ hsz).mono ?_; rintro e w' ⟨rfl, rfl⟩)
        go_ret
        exact ⟨_, rfl, by rw [HF.out]; simp, rfl⟩
      · have hw' : (!wordB (nth l k)) = false := by simpa using hw
        have HW' := Lib.hid hw'
        clear hw
        go_wp2_with (go_at_call 27; refine (CheckLit _ _ hsz).mono ?_; rintro e w' ⟨rfl, rfl⟩)
        go_round
        case rel => exact ⟨k + 1, by omega, by go_num, any_step _ _ _ (by rw [← L1.out]; exact hlt) HA.out HW'.out⟩
        case measure => simp [intOf]; omega
    · have HF := Lib.hid (any_end _ _ _ (by rw [← L1.out]; exact hlt) HA.out)
      go_wp2
      go_ret
      exact ⟨_, rfl, by rw [HF.out]; rfl, rfl⟩
theorem ContainsWord (p : Option Addr) (n c : Nat) (l : List ByteArray) (w : World) (hl : Rd w 1 p n (encS l)) (hz : ∀ s ∈ l, s.size ≤ 1000000) :
    Calls Tryz.prog 26 #[.slice p n c, .func (.func 27) #[] #[]] w fun e w' => e = .returned (.bool (l.any (fun s => !wordB s))) ∧ w = w' := by
  have HC := Lib.hid (IndexWord p n c l w hl hz)
  clear hl hz
  go_enter Tryz.func26, Tryz.ntmps26
  go_wp2_with (go_at_call 49; refine HC.out.mono ?_; rintro e w' ⟨i, rfl, hi, rfl⟩; have HI := Lib.hid hi; clear hi)
  go_ret
  exact ⟨ret_bool HI.out, rfl⟩
end Go.Proofs.YtcjkechemjdboaaGreat
namespace Go.Proofs.YtcjkechemjdboaaGreat
open Go Go.RowKit
set_option maxRecDepth 100000 in
set_option maxHeartbeats 1000000 in
theorem CheckG (N : Int) (pe : Option Addr) (ne ce : Nat) (pw : Option Addr) (nw cw : Nat) (E : List (Int × Int)) (hs : List Hd) (W : List (List ByteArray)) (w : World) (hE : Rd w 2 pe ne (encE E)) (hW : RdW w pw nw hs W) (hz : SzW W) :
    Calls Tryz.prog 11 #[.agg #[.int .i64 N, .slice pe ne ce, .slice pw nw cw]] w fun e w' => e = .returned (.bool (checkB N E W)) ∧ Ext w w' := by
  have p1 := hE.ptr
  have p2 := hW.row.ptr
  have n1 := hE.small
  have n2 := hW.row.small
  have l1 := hE.nE
  have l2 := hW.nW
  have HE := Lib.hid hE; clear hE
  have HW := Lib.hid hW; clear hW
  have HZ := Lib.hid hz; clear hz
  by_cases hpre : 1 ≤ N ∧ N ≤ 200 ∧ ne ≤ 2000 ∧ (nw : Int) = N
  · obtain ⟨c1, c2, c3, rfl⟩ := hpre
    have YES : ∀ (h5 : E.all (edgeOk nw) = true) (h6 : W.all rowOk = true), checkB nw E W = true := checkB_yes c1 c2 (by omega) (by omega)
    have L1 := Lib.hid l1; clear l1
    have L2 := Lib.hid l2; clear l2
    have HY := Lib.hid YES; clear YES
    have t1 : ((nw : Int) != (nw : Int)) = false := by simp
    go_enter Tryz.func11, Tryz.ntmps11
    go_wp2
    go_loopw [4, 32] (fun _ i wr => ∃ k : Nat, k ≤ ne ∧ i = .int .i64 k ∧ (E.take k).all (edgeOk nw) = true ∧ Ext w wr ∧ GBox wr w.heap.size (nw : Int) pe ne ce pw nw cw) (fun _ i _ => ne - (intOf i).toNat)
    case atStart => exact ⟨0, Nat.zero_le _, rfl, rfl, (Below.refl _ _).alloc (Nat.le_refl _) _, GBox.new _ _⟩
    case round =>
      obtain ⟨k, hk, rfl, ha, hb, gb1⟩ := hrel
      have HA := Lib.hid ha; clear ha
      have HB := Lib.hid hb; clear hb
      have G1 := Lib.hid gb1
      obtain ⟨b0, b1, b2⟩ := gb1
      have z0 : w.heap.size < wr.heap.size := World.block_lt_of_cell? wr _ b0
      by_cases hlt : k < ne
      · have g1 := HB.out.cell (HE.out.cE hlt)
        have g2 := HB.out.cell (HE.out.cE2 hlt)
        by_cases hok : 0 ≤ (nth E k).1 ∧ (nth E k).1 < nw ∧ 0 ≤ (nth E k).2 ∧ (nth E k).2 < nw
        · have HO : Hid (edgeOk nw (nth E k) = true) := by unfold Hid edgeOk; exact decide_eq_true hok
          obtain ⟨o1, o2, o3, o4⟩ := hok
          go_wp2_with (first | (go_at_call 25; have _t := F1; refine (isPlaceG _ _ _ _ _ _ _ _ _).mono ?_; rintro e w3 ⟨rfl, hb3⟩; have F2 := Lib.hid (Ext.trans F1.out hb3); clear hb3) | (go_at_call 25; refine (isPlaceG _ _ _ _ _ _ _ _ _).mono ?_; rintro e w2 ⟨rfl, hb2⟩; have F1 := Lib.hid (Ext.trans (Ext.alloc (Below.refl wr.heap.size wr) _) hb2); have b0' := Ext.cell F1.out b0; have b1' := Ext.cell F1.out b1; have b2' := Ext.cell F1.out b2; have x0 := Ext.cell hb2 (cellnew0 _ _ _ _); have x1 := Ext.cell hb2 (cellnew1 _ _ _ _ _); clear hb2))
          go_roundw
          case rel => exact ⟨k + 1, by omega, by go_num, all_step _ _ _ (by rw [← L1.out]; exact hlt) HA.out HO.out, Ext.trans HB.out F2.out, G1.out.ext F2.out⟩
          case measure => simp [intOf]; omega
        · have HO : Hid (edgeOk nw (nth E k) = false) := by unfold Hid edgeOk; exact decide_eq_false hok
          have HF := Lib.hid (checkB_E (W := W) (by rw [← L1.out]; exact hlt) HO.out)
          clear HO
          by_cases o1 : 0 ≤ (nth E k).1
          · by_cases o2 : (nth E k).1 < nw
            · by_cases o3 : 0 ≤ (nth E k).2
              · have o4 : (nw : Int) ≤ (nth E k).2 := Int.not_lt.1 fun h => hok ⟨o1, o2, o3, h⟩
                have o5 : decide ((nth E k).2 < (nw : Int)) = false := by simp; omega
                clear hok
                go_wp2_with (first | (go_at_call 25; have _t := F1; refine (isPlaceG _ _ _ _ _ _ _ _ _).mono ?_; rintro e w3 ⟨rfl, hb3⟩; have F2 := Lib.hid (Ext.trans F1.out hb3); clear hb3) | (go_at_call 25; refine (isPlaceG _ _ _ _ _ _ _ _ _).mono ?_; rintro e w2 ⟨rfl, hb2⟩; have F1 := Lib.hid (Ext.trans (Ext.alloc (Below.refl wr.heap.size wr) _) hb2); have b0' := Ext.cell F1.out b0; have b1' := Ext.cell F1.out b1; have b2' := Ext.cell F1.out b2; have x0 := Ext.cell hb2 (cellnew0 _ _ _ _); have x1 := Ext.cell hb2 (cellnew1 _ _ _ _ _); clear hb2))
                go_ret
                exact ⟨ret_bool HF.out.symm, Ext.trans HB.out F2.out⟩
              · have o5 : decide (0 ≤ (nth E k).2) = false := by simp; omega
                clear hok
                go_wp2_with (first | (go_at_call 25; have _t := F1; refine (isPlaceG _ _ _ _ _ _ _ _ _).mono ?_; rintro e w3 ⟨rfl, hb3⟩; have F2 := Lib.hid (Ext.trans F1.out hb3); clear hb3) | (go_at_call 25; refine (isPlaceG _ _ _ _ _ _ _ _ _).mono ?_; rintro e w2 ⟨rfl, hb2⟩; have F1 := Lib.hid (Ext.trans (Ext.alloc (Below.refl wr.heap.size wr) _) hb2); have b0' := Ext.cell F1.out b0; have b1' := Ext.cell F1.out b1; have b2' := Ext.cell F1.out b2; have x0 := Ext.cell hb2 (cellnew0 _ _ _ _); have x1 := Ext.cell hb2 (cellnew1 _ _ _ _ _); clear hb2))
                go_ret
                exact ⟨ret_bool HF.out.symm, Ext.trans HB.out F2.out⟩
            · have o5 : decide ((nth E k).1 < (nw : Int)) = false := by simp; omega
              clear hok
              go_wp2_with (first | (go_at_call 25; have _t := F1; refine (isPlaceG _ _ _ _ _ _ _ _ _).mono ?_; rintro e w3 ⟨rfl, hb3⟩; have F2 := Lib.hid (Ext.trans F1.out hb3); clear hb3) | (go_at_call 25; refine (isPlaceG _ _ _ _ _ _ _ _ _).mono ?_; rintro e w2 ⟨rfl, hb2⟩; have F1 := Lib.hid (Ext.trans (Ext.alloc (Below.refl wr.heap.size wr) _) hb2); have b0' := Ext.cell F1.out b0; have b1' := Ext.cell F1.out b1; have b2' := Ext.cell F1.out b2; have x0 := Ext.cell hb2 (cellnew0 _ _ _ _); have x1 := Ext.cell hb2 (cellnew1 _ _ _ _ _); clear hb2))
              go_ret
              exact ⟨ret_bool HF.out.symm, Ext.trans HB.out F1.out⟩
          · have o5 : decide (0 ≤ (nth E k).1) = false := by simp; omega
            clear hok
            go_wp2_with (first | (go_at_call 25; have _t := F1; refine (isPlaceG _ _ _ _ _ _ _ _ _).mono ?_; rintro e w3 ⟨rfl, hb3⟩; have F2 := Lib.hid (Ext.trans F1.out hb3); clear hb3) | (go_at_call 25; refine (isPlaceG _ _ _ _ _ _ _ _ _).mono ?_; rintro e w2 ⟨rfl, hb2⟩; have F1 := Lib.hid (Ext.trans (Ext.alloc (Below.refl wr.heap.size wr) _) hb2); have b0' := Ext.cell F1.out b0; have b1' := Ext.cell F1.out b1; have b2' := Ext.cell F1.out b2; have x0 := Ext.cell hb2 (cellnew0 _ _ _ _); have x1 := Ext.cell hb2 (cellnew1 _ _ _ _ _); clear hb2))
            go_ret
            exact ⟨ret_bool HF.out.symm, Ext.trans HB.out F1.out⟩
      · have HEE := Lib.hid (all_end _ _ _ (by rw [← L1.out]; exact hlt) HA.out)
        go_wp2
        clear hlt HA hk
        obtain ⟨wo, rfl⟩ : ∃ wo : World, wo = wr := ⟨_, rfl⟩
        go_loop [6, 52] (fun _ i => ∃ k : Nat, k ≤ nw ∧ i = .int .i64 k ∧ (W.take k).all rowOk = true) (fun _ i => nw - (intOf i).toNat)
        case atStart => exact ⟨0, Nat.zero_le _, rfl, rfl⟩
        case round =>
          obtain ⟨k, hk, rfl, ha⟩ := hrel
          have HA := Lib.hid ha; clear ha
          by_cases hlt : k < nw
          · have g1 := HB.out.cell (HW.out.row.cH hlt)
            have q1 := (HW.out.each k hlt).ext HB.out
            have l3 := q1.nS
            have Q1 := Lib.hid q1; clear q1
            have L3 := Lib.hid l3; clear l3
            have hsz := Lib.hid (HZ.out (nth W k) (by rw [nth_eq (by rw [← L2.out]; exact hlt)]; exact List.getElem_mem _))
            by_cases h8 : (nth hs k).n ≤ 8
            · by_cases hw : (nth W k).any (fun s => !wordB s) = true
              · have HF := Lib.hid (checkB_W (N := nw) (E := E) (k := k) (W := W) (by rw [← L2.out]; exact hlt) (by unfold rowOk; rw [show (nth W k).all wordB = false from by rw [← Bool.not_eq_true, List.all_eq_not_any_not, hw]; simp]; rfl))
                go_wp2_with (go_at_call 26; refine (ContainsWord _ _ _ _ _ Q1.out hsz.out).mono ?_; rintro e w' ⟨rfl, rfl⟩)
                go_ret
                exact ⟨ret_bool HF.out.symm, HB.out⟩
              · have hw' : (nth W k).any (fun s => !wordB s) = false := by simpa using hw
                have HW' := Lib.hid hw'
                clear hw
                go_wp2_with (go_at_call 26; refine (ContainsWord _ _ _ _ _ Q1.out hsz.out).mono ?_; rintro e w' ⟨rfl, rfl⟩)
                go_round
                case rel => exact ⟨k + 1, by omega, by go_num, all_step _ _ _ (by rw [← L2.out]; exact hlt) HA.out (by unfold rowOk; rw [List.all_eq_not_any_not, HW'.out, ← L3.out]; simp [h8])⟩
                case measure => simp [intOf]; omega
            · have HF := Lib.hid (checkB_W (N := nw) (E := E) (k := k) (W := W) (by rw [← L2.out]; exact hlt) (by unfold rowOk; rw [← L3.out]; simp [h8]))
              go_wp2
              go_ret
              exact ⟨ret_bool HF.out.symm, HB.out⟩
          · have HR := Lib.hid (all_end _ _ _ (by rw [← L2.out]; exact hlt) HA.out)
            go_wp2
            go_ret
            exact ⟨ret_bool (HY.out HEE.out HR.out).symm, HB.out⟩
  · have HF := Lib.hid (checkB_pre (N := N) (E := E) (W := W) (by rw [← l1, ← l2]; exact hpre))
    clear l1 l2 HE HW HZ p1 p2
    have h1 : ∀ o1 : Obj, Ext w (w.alloc o1) := fun o1 => (Below.refl _ _).alloc (Nat.le_refl _) _
    by_cases c1 : 1 ≤ N
    · by_cases c2 : N ≤ 200
      · by_cases c3 : ne ≤ 2000
        · have c4 : ((nw : Int) != N) = true := by rw [bne_iff_ne]; exact fun h => hpre ⟨c1, c2, c3, h⟩
          clear hpre
          go_enter Tryz.func11, Tryz.ntmps11
          go_wp2
          go_ret
          exact ⟨ret_bool HF.out.symm, h1 _⟩
        · clear hpre
          go_enter Tryz.func11, Tryz.ntmps11
          go_wp2
          go_ret
          exact ⟨ret_bool HF.out.symm, h1 _⟩
      · clear hpre
        go_enter Tryz.func11, Tryz.ntmps11
        go_wp2
        go_ret
        exact ⟨ret_bool HF.out.symm, h1 _⟩
    · clear hpre
      go_enter Tryz.func11, Tryz.ntmps11
      go_wp2
      go_ret
      exact ⟨ret_bool HF.out.symm, h1 _⟩
end Go.Proofs.YtcjkechemjdboaaGreat
/- The program's rise and Is. -/
namespace Go.Proofs.YtcjkechemjdboaaGreat
open Go Go.RowKit Go.Shelf Go.Lib Go.Sort
theorem Ext.growN {w w' : World} (h : Ext w w') (os : Array Obj) : Ext w (grow w' os) :=
  ⟨h.os, h.tape, h.output, by rw [size_grow]; exact Nat.le_trans h.size (Nat.le_add_right _ _), fun k hk => (heap_grow_old w' os (Nat.lt_of_lt_of_le hk h.size)).trans (h.block k hk)⟩
theorem EdgesExt (x y : Int × Int) (W : World) : Calls Tryz.prog 31 #[.agg #[.int .i64 x.1, .int .i64 x.2], .agg #[.int .i64 y.1, .int .i64 y.2]] W fun e w' => e = .returned (.int .i64 (cmpE x y)) ∧ Ext W w' :=
  (EdgesLit x y W).mono fun e w' ⟨h, q, os, hw⟩ => ⟨h, by subst hw; exact Ext.growN (Ext.drewN (Below.refl _ _) q) os⟩
theorem cmpE_neg (x y : Int × Int) : cmpE x y < 0 ↔ lessE x y = true := by
  have := ltOf_cmpE x y
  unfold ltOf at this
  rw [← this]; simp
theorem cmpS_neg (x y : ByteArray) : cmpS x y < 0 ↔ sLess x y = true := by
  have := ltOf_cmpS x y
  unfold ltOf at this
  rw [← this]; simp
set_option maxRecDepth 100000 in
set_option maxHeartbeats 1000000 in
theorem RiseE (p : Option Addr) (n c : Nat) (l : List (Int × Int)) (w : World) (hl : Rd w 2 p n (encE l)) :
    Calls Tryz.prog 40 #[.slice p n c, .agg #[.func (.func 31) #[] #[]]] w fun e w' => e = .returned (.bool (riseB lessE l)) ∧ Ext w w' := by
  have p1 := hl.ptr
  have n1 := hl.small
  have l1 := hl.nE
  have HL := Lib.hid hl; clear hl
  have L1 := Lib.hid l1; clear l1
  go_enter Tryz.func40, Tryz.ntmps40
  go_wp2
  go_loopw [5] (fun i wr => ∃ k : Nat, 1 ≤ k ∧ (k ≤ n ∨ k = 1) ∧ i = .int .i64 k ∧ (List.range (k - 1)).all (riseAt lessE l) = true ∧ Ext w wr ∧ wr.cell? ⟨w.heap.size, 0, none⟩ = some (.func (.func 31) #[] #[])) (fun i _ => n + 1 - (intOf i).toNat)
  case atStart => exact ⟨1, Nat.le_refl _, .inr rfl, rfl, rfl, (Below.refl _ _).alloc (Nat.le_refl _) _, cellnew0 _ _ _ _⟩
  case round =>
    obtain ⟨k, hk1, hk, rfl, ha, hb, b0⟩ := hrel
    have HA := Lib.hid ha; clear ha
    have HB := Lib.hid hb; clear hb
    by_cases hlt : k < n
    · have g1 := HB.out.cell (HL.out.cE hlt)
      have g2 := HB.out.cell (HL.out.cE2 hlt)
      have g3 := HB.out.cell (HL.out.cE (k := k - 1) (by omega))
      have g4 := HB.out.cell (HL.out.cE2 (k := k - 1) (by omega))
      have e1 : ∀ x : ExtOf wr, x.val.cell? (adr p (k * 2)) = _ := fun x => x.ext.cell g1
      have e2 : ∀ x : ExtOf wr, x.val.cell? (adr p (k * 2 + 1)) = _ := fun x => x.ext.cell g2
      have e3 : ∀ x : ExtOf wr, x.val.cell? (adr p ((k - 1) * 2)) = _ := fun x => x.ext.cell g3
      have e4 : ∀ x : ExtOf wr, x.val.cell? (adr p ((k - 1) * 2 + 1)) = _ := fun x => x.ext.cell g4
      have e5 : ∀ x : ExtOf wr, x.val.cell? ⟨w.heap.size, 0, none⟩ = _ := fun x => x.ext.cell b0
      have d1 : (0:Int) ≤ k := by omega
      have d2 : (k:Int) < n := by omega
      have d3 : (0:Int) ≤ (k:Int) - 1 := by omega
      have d4 : (1:Int) ≤ (k:Int) := by omega
      have d5 : (k:Int) - 1 < n := by omega
      have d6 : ((k:Int) - 1).toNat = k - 1 := by omega
      have hkk : k - 1 + 1 = k := by omega
      have HKK := Lib.hid hkk; clear hkk
      have HC := fun W' => EdgesExt (nth l (k - 1)) (nth l k) W'
      have hcc := cmpE_neg (nth l (k - 1)) (nth l k)
      generalize cmpE (nth l (k - 1)) (nth l k) = cc at HC hcc
      have HC1 := Lib.hid HC; clear HC
      by_cases hless : cc < 0
      · have hle : decide (0 ≤ cc) = false := by simp; omega
        have hls := Lib.hid (hcc.1 hless)
        clear hcc
        go_wp2
        refine wp_region_ext (by kernel_rfl) (by kernel_rfl) ?_
        repeat (go_big_quiet_step ((go_at_call 31; exact Calls.ext_of (HC1.out _))))
        refine wpQuiet_nil ?_
        rintro w1 ⟨⟨_, hb1⟩, rfl⟩
        go_wp2
        go_roundw
        case rel => exact ⟨k + 1, by omega, .inl (by omega), by go_num, by rw [show k + 1 - 1 = k - 1 + 1 from by omega]; exact range_all_succ _ _ HA.out (by unfold riseAt; rw [HKK.out]; exact hls.out), Ext.trans HB.out hb1, hb1.cell b0⟩
        case measure => simp [intOf]; omega
      · have hle : decide (0 ≤ cc) = true := by simp; omega
        have hls : lessE (nth l (k - 1)) (nth l k) = false := by simpa using (fun h => hless (hcc.2 h))
        have HF := Lib.hid (riseB_no (lt := lessE) (l := l) (k := k - 1) (by rw [HKK.out, ← L1.out]; exact hlt) (by rw [HKK.out]; exact hls))
        clear hcc hls
        go_wp2
        refine wp_region_ext (by kernel_rfl) (by kernel_rfl) ?_
        repeat (go_big_quiet_step ((go_at_call 31; exact Calls.ext_of (HC1.out _))))
        refine wpQuiet_nil ?_
        rintro w1 ⟨⟨_, hb1⟩, rfl⟩
        go_wp2
        go_ret
        exact ⟨ret_bool HF.out.symm, Ext.trans HB.out hb1⟩
    · have HEE := Lib.hid (riseB_end (by rw [← L1.out]; exact hlt) HA.out)
      go_wp2
      go_ret
      exact ⟨ret_bool HEE.out.symm, HB.out⟩
set_option maxRecDepth 100000 in
set_option maxHeartbeats 1000000 in
theorem RiseS (p : Option Addr) (n c : Nat) (l : List ByteArray) (w : World) (hl : Rd w 1 p n (encS l)) :
    Calls Tryz.prog 39 #[.slice p n c, .agg #[.func (.func 37) #[] #[]]] w fun e w' => e = .returned (.bool (riseB sLess l)) ∧ Ext w w' := by
  have p1 := hl.ptr
  have n1 := hl.small
  have l1 := hl.nS
  have HL := Lib.hid hl; clear hl
  have L1 := Lib.hid l1; clear l1
  go_enter Tryz.func39, Tryz.ntmps39
  go_wp2
  go_loopw [5] (fun i wr => ∃ k : Nat, 1 ≤ k ∧ (k ≤ n ∨ k = 1) ∧ i = .int .i64 k ∧ (List.range (k - 1)).all (riseAt sLess l) = true ∧ Ext w wr ∧ wr.cell? ⟨w.heap.size, 0, none⟩ = some (.func (.func 37) #[] #[])) (fun i _ => n + 1 - (intOf i).toNat)
  case atStart => exact ⟨1, Nat.le_refl _, .inr rfl, rfl, rfl, (Below.refl _ _).alloc (Nat.le_refl _) _, cellnew0 _ _ _ _⟩
  case round =>
    obtain ⟨k, hk1, hk, rfl, ha, hb, b0⟩ := hrel
    have HA := Lib.hid ha; clear ha
    have HB := Lib.hid hb; clear hb
    by_cases hlt : k < n
    · have g1 := HB.out.cell (HL.out.cS hlt)
      have g3 := HB.out.cell (HL.out.cS (k := k - 1) (by omega))
      have e1 : ∀ x : ExtOf wr, x.val.cell? (adr p k) = _ := fun x => x.ext.cell g1
      have e3 : ∀ x : ExtOf wr, x.val.cell? (adr p (k - 1)) = _ := fun x => x.ext.cell g3
      have e5 : ∀ x : ExtOf wr, x.val.cell? ⟨w.heap.size, 0, none⟩ = _ := fun x => x.ext.cell b0
      have d1 : (0:Int) ≤ k := by omega
      have d2 : (k:Int) < n := by omega
      have d3 : (0:Int) ≤ (k:Int) - 1 := by omega
      have d4 : (1:Int) ≤ (k:Int) := by omega
      have d5 : (k:Int) - 1 < n := by omega
      have d6 : ((k:Int) - 1).toNat = k - 1 := by omega
      have hkk : k - 1 + 1 = k := by omega
      have HKK := Lib.hid hkk; clear hkk
      have HC : ∀ W', Calls Tryz.prog 37 #[.string (nth l (k - 1)), .string (nth l k)] W' fun e w' => e = .returned (.int .i64 (cmpS (nth l (k - 1)) (nth l k))) ∧ Ext W' w' := fun W' => (CompareS (nth l (k - 1)) (nth l k) W').mono fun e w' ⟨h, hw⟩ => ⟨h, by subst hw; exact Below.refl _ _⟩
      have hcc := cmpS_neg (nth l (k - 1)) (nth l k)
      generalize cmpS (nth l (k - 1)) (nth l k) = cc at HC hcc
      have HC1 := Lib.hid HC; clear HC
      by_cases hless : cc < 0
      · have hle : decide (0 ≤ cc) = false := by simp; omega
        have hls := Lib.hid (hcc.1 hless)
        clear hcc
        go_wp2
        refine wp_region_ext (by kernel_rfl) (by kernel_rfl) ?_
        repeat (go_big_quiet_step ((go_at_call 37; exact Calls.ext_of (HC1.out _))))
        refine wpQuiet_nil ?_
        rintro w1 ⟨⟨_, hb1⟩, rfl⟩
        go_wp2
        go_roundw
        case rel => exact ⟨k + 1, by omega, .inl (by omega), by go_num, by rw [show k + 1 - 1 = k - 1 + 1 from by omega]; exact range_all_succ _ _ HA.out (by unfold riseAt; rw [HKK.out]; exact hls.out), Ext.trans HB.out hb1, hb1.cell b0⟩
        case measure => simp [intOf]; omega
      · have hle : decide (0 ≤ cc) = true := by simp; omega
        have hls : sLess (nth l (k - 1)) (nth l k) = false := by simpa using (fun h => hless (hcc.2 h))
        have HF := Lib.hid (riseB_no (lt := sLess) (l := l) (k := k - 1) (by rw [HKK.out, ← L1.out]; exact hlt) (by rw [HKK.out]; exact hls))
        clear hcc hls
        go_wp2
        refine wp_region_ext (by kernel_rfl) (by kernel_rfl) ?_
        repeat (go_big_quiet_step ((go_at_call 37; exact Calls.ext_of (HC1.out _))))
        refine wpQuiet_nil ?_
        rintro w1 ⟨⟨_, hb1⟩, rfl⟩
        go_wp2
        go_ret
        exact ⟨ret_bool HF.out.symm, Ext.trans HB.out hb1⟩
    · have HEE := Lib.hid (riseB_end (by rw [← L1.out]; exact hlt) HA.out)
      go_wp2
      go_ret
      exact ⟨ret_bool HEE.out.symm, HB.out⟩
theorem IsLit (p : Option Addr) (n c : Nat) (l : List ByteArray) (w : World) (hl : Rd w 1 p n (encS l)) :
    Calls Tryz.prog 38 #[.slice p n c] w fun e w' => e = .returned (.bool (!riseB sLess l)) ∧ Ext w w' := by
  have HL := Lib.hid hl; clear hl
  go_enter Tryz.func38, Tryz.ntmps38
  go_wp2_with (first
    | (go_at_call 15; go_must ((refine (WordsG _).mono ?_; rintro e w1 ⟨rfl, hb1⟩; have B1 := Lib.hid hb1; clear hb1)))
    | (go_at_call 39; have _t := B1; go_must ((refine (RiseS _ _ _ _ _ (HL.out.ext B1.out)).mono ?_; rintro e w2 ⟨rfl, hb2⟩; have B2 := Lib.hid (Ext.trans B1.out hb2); clear hb2))))
  go_ret
  exact ⟨rfl, B2.out⟩
set_option maxHeartbeats 400000 in
/-- the first row that does not rise, or -1 -/
theorem IndexRise (p : Option Addr) (n c : Nat) (hs : List Hd) (W : List (List ByteArray)) (w : World) (hl : RdW w p n hs W) :
    Calls Tryz.prog 54 #[.slice p n c, .func (.func 38) #[] #[]] w fun e w' => ∃ i : Int, e = .returned (.int .i64 i) ∧ decide (0 ≤ i) = W.any (fun l => !riseB sLess l) ∧ Ext w w' := by
  have p1 := hl.row.ptr
  have n1 := hl.row.small
  have l1 := hl.nW
  have HL := Lib.hid hl; clear hl
  have L1 := Lib.hid l1; clear l1
  go_enter Tryz.func54, Tryz.ntmps54
  go_wp2
  go_loopw [5, 8] (fun _ i wr => ∃ k : Nat, k ≤ n ∧ i = .int .i64 k ∧ (W.take k).any (fun l => !riseB sLess l) = false ∧ Ext w wr) (fun _ i _ => n - (intOf i).toNat)
  case atStart => exact ⟨0, Nat.zero_le _, rfl, rfl, Below.refl _ _⟩
  case round =>
    obtain ⟨k, hk, rfl, ha, hb⟩ := hrel
    have HA := Lib.hid ha; clear ha
    have HB := Lib.hid hb; clear hb
    by_cases hlt : k < n
    · have g1 := HB.out.cell (HL.out.row.cH hlt)
      have Q1 := Lib.hid ((HL.out.each k hlt).ext HB.out)
      by_cases hw : (!riseB sLess (nth W k)) = true
      · have HF := Lib.hid (any_true_at (fun l => !riseB sLess l) W k (by rw [← L1.out]; exact hlt) hw)
        go_wp2_with (go_at_call 38; refine (IsLit _ _ _ _ _ Q1.out).mono ?_; rintro e w' ⟨rfl, hb1⟩; have H1 := Lib.hid (Ext.trans HB.out hb1); clear hb1)
        go_ret
        exact ⟨_, rfl, by rw [HF.out]; simp, H1.out⟩
      · have hw' : (!riseB sLess (nth W k)) = false := by simpa using hw
        have HW' := Lib.hid hw'
        clear hw
        go_wp2_with (go_at_call 38; refine (IsLit _ _ _ _ _ Q1.out).mono ?_; rintro e w' ⟨rfl, hb1⟩; have H1 := Lib.hid (Ext.trans HB.out hb1); clear hb1)
        go_roundw
        case rel => exact ⟨k + 1, by omega, by go_num, any_step _ _ _ (by rw [← L1.out]; exact hlt) HA.out HW'.out, H1.out⟩
        case measure => simp [intOf]; omega
    · have HF := Lib.hid (any_end _ _ _ (by rw [← L1.out]; exact hlt) HA.out)
      go_wp2
      go_ret
      exact ⟨_, rfl, by rw [HF.out]; rfl, HB.out⟩
theorem ContainsRise (p : Option Addr) (n c : Nat) (hs : List Hd) (W : List (List ByteArray)) (w : World) (hl : RdW w p n hs W) :
    Calls Tryz.prog 41 #[.slice p n c, .func (.func 38) #[] #[]] w fun e w' => e = .returned (.bool (W.any (fun l => !riseB sLess l))) ∧ Ext w w' := by
  have HC := Lib.hid (IndexRise p n c hs W w hl)
  clear hl
  go_enter Tryz.func41, Tryz.ntmps41
  go_wp2_with (go_at_call 54; refine HC.out.mono ?_; rintro e w' ⟨i, rfl, hi, hb⟩; have HI := Lib.hid hi; have HB := Lib.hid hb; clear hi hb)
  go_ret
  exact ⟨ret_bool HI.out, HB.out⟩
set_option maxRecDepth 100000 in
set_option maxHeartbeats 2000000 in
theorem IsG (N : Int) (pe : Option Addr) (ne ce : Nat) (pw : Option Addr) (nw cw : Nat) (E : List (Int × Int)) (hs : List Hd) (W : List (List ByteArray)) (w : World) (hE : Rd w 2 pe ne (encE E)) (hW : RdW w pw nw hs W) (hz : SzW W) :
    Calls Tryz.prog 16 #[.agg #[.int .i64 N, .slice pe ne ce, .slice pw nw cw]] w fun e w' => e = .returned (.bool (isB N E W)) ∧ Ext w w' := by
  have hu : isB N E W = (checkB N E W && riseB lessE E && !W.any (fun l => !riseB sLess l)) := by unfold isB; rw [← List.all_eq_not_any_not]
  rw [hu]
  have HCk := Lib.hid (fun W1 (h : Ext w W1) => CheckG N pe ne ce pw nw cw E hs W W1 (hE.ext h) (hW.ext h) hz)
  have HRi := Lib.hid (fun W1 (h : Ext w W1) => RiseE pe ne ce E W1 (hE.ext h))
  have HCo := Lib.hid (fun W1 (h : Ext w W1) => ContainsRise pw nw cw hs W W1 (hW.ext h))
  clear hE hW hz hu
  generalize checkB N E W = b1 at *
  generalize riseB lessE E = b2 at *
  generalize W.any (fun l => !riseB sLess l) = b3 at *
  have hx : Ext w (w.alloc (.cells #[.int .i64 N, .slice pe ne ce, .slice pw nw cw] 25)) := (Below.refl _ _).alloc (Nat.le_refl _) _
  have c0 : (w.alloc (.cells #[.int .i64 N, .slice pe ne ce, .slice pw nw cw] 25)).cell? ⟨w.heap.size, 0, none⟩ = some (.int .i64 N) := by simp
  have c1 : (w.alloc (.cells #[.int .i64 N, .slice pe ne ce, .slice pw nw cw] 25)).cell? ⟨w.heap.size, 1, none⟩ = some (.slice pe ne ce) := by simp
  have c2 : (w.alloc (.cells #[.int .i64 N, .slice pe ne ce, .slice pw nw cw] 25)).cell? ⟨w.heap.size, 2, none⟩ = some (.slice pw nw cw) := by simp
  cases b1 <;> cases b2 <;> cases b3 <;>
  (go_enter Tryz.func16, Tryz.ntmps16
   go_wp2
   obtain ⟨wo, hwo⟩ : ∃ wo, wo = w.alloc (.cells #[.int .i64 N, .slice pe ne ce, .slice pw nw cw] 25) := ⟨_, rfl⟩
   rw [← hwo] at hx c0 c1 c2 ⊢
   have HX := Lib.hid hx
   have e0 : ∀ x : ExtOf wo, x.val.cell? ⟨w.heap.size, 0, none⟩ = _ := fun x => x.ext.cell c0
   have e1 : ∀ x : ExtOf wo, x.val.cell? ⟨w.heap.size, 1, none⟩ = _ := fun x => x.ext.cell c1
   have e2 : ∀ x : ExtOf wo, x.val.cell? ⟨w.heap.size, 2, none⟩ = _ := fun x => x.ext.cell c2
   refine wp_region_ext (by kernel_rfl) (by kernel_rfl) ?_
   repeat (go_big_quiet_step ((first | (go_at_call 11; exact Calls.ext_of (HCk.out _ (Ext.trans HX.out (ExtOf.ext _)))) | (go_at_call 13; exact Calls.ext_of (EdgesG _)) | (go_at_call 40; exact Calls.ext_of (HRi.out _ (Ext.trans HX.out (ExtOf.ext _)))) | (go_at_call 41; exact Calls.ext_of (HCo.out _ (Ext.trans HX.out (ExtOf.ext _)))))))
   refine wpQuiet_nil ?_
   rintro w1 ⟨⟨_, hb1⟩, rfl⟩
   go_wp2
   go_ret
   exact ⟨rfl, Ext.trans HX.out hb1⟩)
end Go.Proofs.YtcjkechemjdboaaGreat
/- The program's Make of postings. -/
namespace Go.Proofs.YtcjkechemjdboaaGreat
open Go Go.RowKit
theorem zeroL (w : World) : (zeroValue 34).run Tryz.prog w = .ok (.slice none 0 0) w := by kernel_rfl
theorem MakeG_no (N : Int) (pe : Option Addr) (ne ce : Nat) (pw : Option Addr) (nw cw : Nat) (E : List (Int × Int)) (hs : List Hd) (W : List (List ByteArray)) (w : World) (hE : Rd w 2 pe ne (encE E)) (hW : RdW w pw nw hs W) (hz : SzW W) (hi : isB N E W = false) :
    Calls Tryz.prog 6 #[.agg #[.int .i64 N, .slice pe ne ce, .slice pw nw cw]] w fun e w' => e = .returned (.tuple #[.slice none 0 0, .int .i64 20]) ∧ Ext w w' := by
  have HI := Lib.hid (fun W1 (h : Ext w W1) => IsG N pe ne ce pw nw cw E hs W W1 (hE.ext h) (hW.ext h) hz)
  rw [hi] at HI
  have hx : Ext w (w.alloc (.cells #[.int .i64 N, .slice pe ne ce, .slice pw nw cw] 25)) := Ext.alloc (Below.refl _ _) _
  clear hE hW hz hi
  go_enter Tryz.func6, Tryz.ntmps6
  go_wp2_with (go_at_call 16; go_must (refine (HI.out _ hx).mono ?_; rintro e w1 ⟨rfl, hb⟩; have B1 := Lib.hid (Ext.trans hx hb); clear hb))
  go_ret2
  exact ⟨rfl, B1.out⟩
/-- what has been gathered, in memory -/
structure GS (w wr : World) (b g : Nat) (cs : Array Value) (O : List Occ) (A : List Po) (hs : List Hd) (q : Option Addr) (c : Nat) (f : ByteArray → Option Value) : Prop where
  len : hs.length = A.length
  gath : Gath O A
  some_ : ∀ r, r < A.length → f (nth A r).1 = some (nth hs r).v
  none_ : ∀ s, s ∉ A.map (·.1) → f s = none
  sep : Sep w wr [.rowsD 3 1 (rowsP A hs), .own 9 1 q A.length c (encS (A.map (·.1))), .mapT Tryz.prog 9 b O.length f, .blk g 25 cs]
theorem rowsP_set {A : List Po} {hs : List Hd} {r : Nat} {p : Po} {h : Hd} : rowsP (A.set r p) (hs.set r h) = (rowsP A hs).set r (h, encI p.2) := by
  unfold rowsP
  rw [List.map_set]
  apply List.ext_getElem?
  intro i
  simp only [List.getElem?_zip_eq_some, List.zip, List.getElem?_zipWith, List.getElem?_set, List.length_zipWith]
  by_cases e : r = i
  · subst e
    by_cases h1 : r < hs.length <;> by_cases h2 : r < A.length <;> simp [h1, h2] <;> omega
  · simp [e]
theorem rowsP_get {A : List Po} {hs : List Hd} {r : Nat} (h : hs.length = A.length) (hr : r < A.length) : (rowsP A hs)[r]? = some (nth hs r, encI (nth A r).2) := by
  unfold rowsP
  rw [nth_eq (by omega), nth_eq hr, List.getElem?_eq_getElem (by simp; omega)]
  simp
theorem nth_set_eq {α : Type} [Inhabited α] {l : List α} {r : Nat} {x : α} (h : r < l.length) : nth (l.set r x) r = x := by rw [nth_eq (by simpa using h)]; simp
theorem nth_set_ne {α : Type} [Inhabited α] {l : List α} {r i : Nat} {x : α} (h : i ≠ r) (hi : i < l.length) : nth (l.set r x) i = nth l i := by rw [nth_eq (by simpa using hi), nth_eq hi, List.getElem_set_ne (fun e => h e.symm)]
/-- a word that is new -/
theorem GS.new {w wr : World} {b g : Nat} {cs : Array Value} {O : List Occ} {A : List Po} {hs : List Hd} {q : Option Addr} {c : Nat} {f : ByteArray → Option Value} (G : GS w wr b g cs O A hs q c f) {s : ByteArray} (hs' : s ∉ A.map (·.1)) {v : Int} {wn : World} {q1 q2 : Option Addr} {c1 c2 : Nat}
    (S : Sep w wn [.rowsD 3 1 ((rowsP A hs ++ [((⟨none, 0, 0⟩ : Hd), ([] : List Value))]).set A.length ((⟨q2, 1, c2⟩ : Hd), [Value.int .i64 v])), .own 9 1 q1 (A.length + 1) c1 (encS (A.map (·.1)) ++ encS [s]), .mapT Tryz.prog 9 b (O.length + 1) (upT f s (.slice q2 1 c2)), .blk g 25 cs]) :
    GS w wn b g cs (O ++ [(v, s)]) (A ++ [(s, [v])]) (hs ++ [⟨q2, 1, c2⟩]) q1 c1 (upT f s (.slice q2 1 c2)) := by
  have hlen : (rowsP A hs).length = A.length := by unfold rowsP; simp [G.len]
  have hrow : (rowsP A hs ++ [((⟨none, 0, 0⟩ : Hd), ([] : List Value))]).set A.length ((⟨q2, 1, c2⟩ : Hd), [Value.int .i64 v]) = rowsP (A ++ [(s, [v])]) (hs ++ [⟨q2, 1, c2⟩]) := by
    rw [rowsP_snoc _ _ _ _ G.len, List.set_append_right _ _ (by omega), hlen, Nat.sub_self]; rfl
  refine ⟨by simp [G.len], G.gath.new hs', fun r hr => ?_, fun t ht => ?_, ?_⟩
  · rw [List.length_append, List.length_singleton] at hr
    by_cases e : r < A.length
    · rw [nth_append_left _ _ _ e, nth_append_left _ _ _ (by rw [G.len]; exact e)]
      unfold upT
      rw [if_neg]
      · exact G.some_ r e
      · rintro he
        exact hs' (by rw [← he, nth_eq e]; exact List.mem_map_of_mem (List.getElem_mem _))
    · have e1 : r = A.length := by omega
      subst e1
      have a1 : nth (A ++ [(s, [v])]) A.length = (s, [v]) := nth_append_new _ _
      have a2 : nth (hs ++ [(⟨q2, 1, c2⟩ : Hd)]) A.length = ⟨q2, 1, c2⟩ := by rw [← G.len]; exact nth_append_new _ _
      rw [a1, a2]; unfold upT; simp [Hd.v]
  · rw [List.map_append, List.mem_append, not_or] at ht
    unfold upT
    rw [if_neg (by simpa using ht.2)]
    exact G.none_ t ht.1
  · rw [hrow, ← encS_append] at S
    simpa using S
/-- a word that was there -/
theorem GS.more {w wr : World} {b g : Nat} {cs : Array Value} {O : List Occ} {A : List Po} {hs : List Hd} {q : Option Addr} {c : Nat} {f : ByteArray → Option Value} (G : GS w wr b g cs O A hs q c f) {r : Nat} (hr : r < A.length) {v : Int} {wn : World} {q2 : Option Addr} {m2 c2 : Nat}
    (S : Sep w wn [.rowsD 3 1 ((rowsP A hs).set r ((⟨q2, m2, c2⟩ : Hd), encI (nth A r).2 ++ encI [v])), .own 9 1 q A.length c (encS (A.map (·.1))), .mapT Tryz.prog 9 b (O.length + 1) (upT f (nth A r).1 (.slice q2 m2 c2)), .blk g 25 cs]) :
    GS w wn b g cs (O ++ [(v, (nth A r).1)]) (A.set r ((nth A r).1, (nth A r).2 ++ [v])) (hs.set r ⟨q2, m2, c2⟩) q c (upT f (nth A r).1 (.slice q2 m2 c2)) := by
  have hmap : (A.set r ((nth A r).1, (nth A r).2 ++ [v])).map (·.1) = A.map (·.1) := by
    rw [List.map_set]
    have e : (nth A r).1 = (A.map (·.1))[r]'(by simpa using hr) := by rw [nth_eq hr, List.getElem_map]
    show (A.map (·.1)).set r (nth A r).1 = _
    rw [e, List.set_getElem_self]
  refine ⟨by simp [G.len], G.gath.more hr, fun i hi => ?_, fun t ht => ?_, ?_⟩
  · rw [List.length_set] at hi
    by_cases e : i = r
    · subst e
      rw [nth_set_eq hr, nth_set_eq (by rw [G.len]; exact hr)]
      unfold upT; simp [Hd.v]
    · rw [nth_set_ne e hi, nth_set_ne e (by rw [G.len]; exact hi)]
      unfold upT
      rw [if_neg]
      · exact G.some_ i hi
      · rw [nth_eq hi, nth_eq hr]
        intro he
        exact nodup_ne G.gath.nodup (i := i) (j := r) (by simpa using hi) (by simpa using hr) e (by simpa using he)
  · rw [hmap] at ht
    unfold upT
    rw [if_neg]
    · exact G.none_ t ht
    · rintro rfl
      exact ht (by rw [nth_eq hr]; exact List.mem_map_of_mem (List.getElem_mem _))
  · rw [hmap, rowsP_set, List.length_set, encI_append]
    simpa using S
theorem RdP.of_rows {w0 w : World} {Γ : List Pc} (S : Sep w0 w Γ) (j i : Nat) {q : Option Addr} {n c : Nat} {rows : List (Hd × List Value)} {F : List Hd} {L : List Po} (hj : Γ[j]? = some (.rowsD 3 1 rows)) (hi : Γ[i]? = some (.own 55 2 q n c (encPo L F))) (hl : F.length = L.length) (hr : ∀ a, a < L.length → (nth F a, encI (nth L a).2) ∈ rows) : RdP w q n F L := by
  have ho := S.own i hi
  have hr1 := Rd.of_own ho (own_small ho)
  have hn : n = L.length := by have := ho.1; rw [encPo_len L F hl] at this; omega
  refine ⟨hn, hr1.ptr, hr1.small, fun k hk => ?_, fun k hk => ?_, fun k hk => ?_⟩
  · rw [hr1.cells (k * 2) (by omega), (encPo_get L F k hl (by omega)).1]
  · rw [hr1.cells (k * 2 + 1) (by omega), (encPo_get L F k hl (by omega)).2]; rfl
  · have h1 := (S.rowsAt j hj).1 _ (hr k (by omega))
    exact Rd.of_own h1 (own_small h1)
theorem infT : (Tryz.prog.info? 9).map (fun i => (i.zero, i.size, i.bytes)) = some (some (.string ByteArray.empty), 1, 16) := by kernel_rfl
theorem infJ : (Tryz.prog.info? 3).map (fun i => (i.zero, i.size, i.bytes)) = some (some (.int .i64 0), 1, 8) := by kernel_rfl
theorem one_int (x : Int) : ∀ u ∈ [Value.int .i64 x], u.oneCell' = true := by intro u hu; simp at hu; subst hu; rfl
theorem one_str (x : ByteArray) : ∀ u ∈ [Value.string x], u.oneCell' = true := by intro u hu; simp at hu; subst hu; rfl
theorem MapT.size {P : Program} {k : TypeId} {b n : Nat} {f : ByteArray → Option Value} {w : World} (h : MapT P k b n f w) {s : ByteArray} {v : Value} (hf : f s = some v) : s.size ≤ 1000000 := by
  obtain ⟨D, _, _, h3⟩ := h
  exact (h3 s v hf).1
theorem isB_check {N : Int} {E : List (Int × Int)} {W : List (List ByteArray)} (h : isB N E W = true) : checkB N E W = true := by
  cases hc : checkB N E W with
  | true => rfl
  | false => rw [isB_chk hc] at h; cases h
/-- the row of a word -/
def hdOf (f : ByteArray → Option Value) (s : ByteArray) : Hd := match f s with | some (.slice p n c) => ⟨p, n, c⟩ | _ => ⟨none, 0, 0⟩
theorem hdOf_eq {f : ByteArray → Option Value} {s : ByteArray} {h : Hd} (e : f s = some h.v) : hdOf f s = h := by unfold hdOf; rw [e]; rfl
theorem GS.look {w wr : World} {b g : Nat} {cs : Array Value} {O : List Occ} {A : List Po} {hs : List Hd} {q : Option Addr} {c : Nat} {f : ByteArray → Option Value} (G : GS w wr b g cs O A hs q c f) {s : ByteArray} (h : s ∈ A.map (·.1)) :
    ∃ r, r < A.length ∧ (nth A r).1 = s ∧ f s = some (nth hs r).v ∧ (nth hs r).n = (plc O s).length ∧ 0 < (nth hs r).n ∧ (nth hs r).n ≤ O.length ∧ s.size ≤ 1000000 := by
  obtain ⟨r, hr, h1, h2⟩ := G.gath.find h
  have hf := G.some_ r hr
  rw [h1] at hf
  have hrow := (G.sep.rowsAt 0 rfl).1 _ (List.mem_of_getElem? (rowsP_get G.len hr))
  have hl : (plc O s).length = (nth hs r).n * 1 := by have h3 := hrow.1; rw [encI_len, h2] at h3; exact h3
  have hp : 0 < (plc O s).length := by
    refine List.length_pos_iff.2 fun e => ?_
    obtain ⟨x, hx, e2⟩ := (G.gath.keys s).1 h
    exact plc_nil.1 e x hx e2
  have := plc_len O s
  exact ⟨r, hr, h1, hf, by omega, by omega, by omega, (G.sep.mapT 2 rfl).size hf⟩
set_option maxRecDepth 100000 in
set_option maxHeartbeats 2000000 in
theorem MakeG_yes (N : Int) (pe : Option Addr) (ne ce : Nat) (pw : Option Addr) (nw cw : Nat) (E : List (Int × Int)) (hs : List Hd) (W : List (List ByteArray)) (w : World) (hE : Rd w 2 pe ne (encE E)) (hW : RdW w pw nw hs W) (hz : SzW W) (hc : isB N E W = true) :
    Calls Tryz.prog 6 #[.agg #[.int .i64 N, .slice pe ne ce, .slice pw nw cw]] w fun e w' => ∃ q n c hs', e = .returned (.tuple #[.slice q n c, .int .i64 0]) ∧ RdP w' q n hs' (makeP W) ∧ Ext w w' := by
  obtain ⟨i0, hi0, hz0, hz1, hz2⟩ := info_parts infP
  obtain ⟨i1, hi1, hy0, hy1, hy2⟩ := info_parts infT
  obtain ⟨i2, hi2, hx0, hx1, hx2⟩ := info_parts infJ
  obtain ⟨_, hN, hE2, hWN, _, hW8⟩ := checkB_parts (isB_check hc)
  have hW9 := rowOk_len hW8
  have hO := occK_len hW9
  have p2 := hW.row.ptr
  have l2 := hW.nW
  have n2 : nw ≤ 200 := by omega
  have hmm := @run_makeMap Tryz.prog
  have HI := Lib.hid (fun W1 (h : Ext w W1) => IsG N pe ne ce pw nw cw E hs W W1 (hE.ext h) (hW.ext h) hz)
  rw [hc] at HI
  have HW := Lib.hid hW; clear hW
  have HZ := Lib.hid hz; clear hz
  have L2 := Lib.hid l2; clear l2
  have H9 := Lib.hid hW9; clear hW9
  have HO := Lib.hid hO; clear hO
  clear hW8 hE2 hN hWN hE hc
  have S0 := Lib.hid ((Sep.start w).al #[.int .i64 N, .slice pe ne ce, .slice pw nw cw] 25 w.heap.size rfl)
  go_enter Tryz.func6, Tryz.ntmps6
  go_wp2_with (go_at_call 16; go_must (refine (HI.out _ S0.out.ext).mono ?_; rintro e w1 ⟨rfl, hb⟩; have S1 := S0.out.call hb; have c0 := (S1.blk 0 rfl).cell 2; have cz := (S1.blk 0 rfl).lt; have S2 := Lib.hid (((S1.mkmapT Tryz.prog 9).nilrow 9 1).rowsD0 3 1); clear S1 hb))
  go_loopw [5, 6, 7, 9, 20] (fun ws _ _ _ i wr => ∃ (k : Nat) (q : Option Addr) (c : Nat) (A : List Po) (hs' : List Hd) (f : ByteArray → Option Value), k ≤ nw ∧ i = .int .i64 k ∧ ws = .slice q A.length c ∧ GS w wr w1.heap.size w.heap.size #[.int .i64 N, .slice pe ne ce, .slice pw nw cw] (occK W k) A hs' q c f) (fun _ _ _ _ i _ => nw - (intOf i).toNat)
  case atStart => exact ⟨0, none, 0, [], [], _, Nat.zero_le _, rfl, rfl, ⟨rfl, Gath.nil, fun r h => absurd h (Nat.not_lt_zero r), fun s _ => rfl, S2.out⟩⟩
  case round =>
    clear S2 c0 cz
    obtain ⟨k, q, c, A, hs', f, hk, rfl, rfl, G⟩ := hrel
    by_cases hlt : k < nw
    · have g1 := G.sep.ext.cell (HW.out.row.cH hlt)
      have q1 := (HW.out.each k hlt)
      have p3 := q1.ptr
      have n3 := q1.small
      have l3 := q1.nS
      have n8 : (nth hs k).n ≤ 8 := by rw [l3]; exact H9.out _ (by rw [nth_eq (by rw [← L2.out]; exact hlt)]; exact List.getElem_mem _)
      have nO := HO.out k (by rw [← L2.out]; exact hk)
      have d1 : (0:Int) ≤ k := by omega
      have d2 : (k:Int) < nw := by omega
      have Q1 := Lib.hid q1; clear q1
      have L3 := Lib.hid l3; clear l3
      have NO := Lib.hid nO; clear nO
      have SG := Lib.hid G; clear G
      go_wp2
      go_loopw [5, 9, 27] (fun ws _ i wr => ∃ (j : Nat) (q : Option Addr) (c : Nat) (A : List Po) (hs' : List Hd) (f : ByteArray → Option Value), j ≤ (nth hs k).n ∧ i = .int .i64 j ∧ ws = .slice q A.length c ∧ GS w wr w1.heap.size w.heap.size #[.int .i64 N, .slice pe ne ce, .slice pw nw cw] (occK W k ++ occR k ((nth W k).take j)) A hs' q c f) (fun _ _ i _ => (nth hs k).n - (intOf i).toNat)
      case atStart => exact ⟨0, q, c, A, hs', f, Nat.zero_le _, rfl, rfl, by simpa [occR] using SG.out⟩
      case round =>
        clear SG g1
        obtain ⟨j, q, c, A, hs', f, hj, rfl, rfl, G⟩ := hrel
        by_cases hjt : j < (nth hs k).n
        · have g3 := (Q1.out.ext G.sep.ext).cS hjt
          have hss := HZ.out.at (k := k) (j := j) (by rw [← L2.out]; exact hlt) (by rw [← L3.out]; exact hjt)
          have HT := Lib.hid (occR_take k (nth W k) j (by rw [← L3.out]; exact hjt))
          obtain ⟨s, hsd⟩ : ∃ s, s = nth (nth W k) j := ⟨_, rfl⟩
          rw [← hsd] at g3 hss HT
          clear hsd
          have d3 : (0:Int) ≤ j := by omega
          have d4 : (j:Int) < (nth hs k).n := by omega
          have hol : (occK W k ++ occR k ((nth W k).take j)).length ≤ 1608 := by
            have := NO.out
            rw [List.length_append, occR_len, List.length_take]; omega
          have hAl : A.length ≤ 1608 := by have := G.gath.len; omega
          have hlk := (G.sep.mapT 2 rfl).lookup (t := 52) Tryz.underlying9 Tryz.underlying52 (zeroL _) hss
          have HSS := Lib.hid hss; clear hss
          have HOL := Lib.hid hol; clear hol
          by_cases hin : s ∈ A.map (·.1)
          · obtain ⟨r, hr, hrs, hfr, hn1, hn2, hn3, _⟩ := G.look hin
            clear hin
            subst hrs
            rw [hfr] at hlk
            have hRG := rowsP_get G.len hr
            obtain ⟨hd, hhd⟩ : ∃ hd, hd = nth hs' r := ⟨_, rfl⟩
            rw [← hhd] at hfr hn1 hn2 hn3 hRG hlk
            obtain ⟨dp, dn, dc⟩ := hd
            have hlk1 : (Instr.lookup 52 (.map (some w1.heap.size)) (.string (nth A r).1) false).run Tryz.prog wr = .ok (.slice dp dn dc) wr := hlk
            have dn2 : 0 < dn := hn2
            have dn3 : dn ≤ 1608 := by have h1 : dn ≤ _ := hn3; have h2 := HOL.out; omega
            have dn4 : ¬ (dn:Int) = 0 := by omega
            have dn5 : ¬ dn = 0 := by omega
            clear hlk hn1 hn2 hn3 hfr hhd
            have HRG := Lib.hid hRG; clear hRG
            have HR := Lib.hid hr; clear hr
            have SG := Lib.hid G; clear G
            go_wp2_with (first
              | (at_builtin; go_must (refine wpList_append_rows rfl _ _ _ rfl i2 _ 8 Tryz.underlying34 hi2 hx0 hx1 hx2 rfl (by omega) (SG.out.sep.junk _) 0 rfl r dp dn dc _ HRG.out rfl _ 1 1 _ rfl (Rd.new _ _ _ 1 1 rfl (by omega)) (one_int _) (by omega) (by omega) ?_; intro q2 c2 w5 S' hsz; have S4 := Lib.hid S'; clear S' hsz))
              | (at_mapUpdate; go_must (refine wpList_updateT_sep rfl _ _ _ _ rfl Tryz.underlying9 Tryz.underlying52 rfl S4.out 2 rfl (by have := HOL.out; omega) (nth A r).1 (.slice q2 (dn + 1) c2) rfl rfl HSS.out ?_; intro w6 S' hg; have S5 := Lib.hid S'; clear S' hg)))
            go_roundw
            case rel => exact ⟨j + 1, q, c, A.set r ((nth A r).1, (nth A r).2 ++ [(k:Int)]), hs'.set r ⟨q2, dn + 1, c2⟩, _, by omega, by go_num, by rw [List.length_set], by rw [HT.out, ← List.append_assoc]; exact SG.out.more HR.out S5.out⟩
            case measure => simp [intOf]; omega
          · have hfn := G.none_ s hin
            rw [hfn] at hlk
            have hlk1 : (Instr.lookup 52 (.map (some w1.heap.size)) (.string s) false).run Tryz.prog wr = .ok (.slice none 0 0) wr := hlk
            clear hlk
            have HFN := Lib.hid hfn; clear hfn
            have HIN := Lib.hid hin; clear hin
            have HRG : Hid ((rowsP A hs' ++ [((⟨none, 0, 0⟩ : Hd), ([] : List Value))])[A.length]? = some (⟨none, 0, 0⟩, [])) := by
              unfold Hid
              have : (rowsP A hs').length = A.length := by unfold rowsP; simp [G.len]
              rw [← this]; simp
            have SG := Lib.hid G; clear G
            have ST1 : True := trivial
            go_wp2_with (first
              | (at_builtin; have ST2 := ST1; go_must (refine wpList_append_sep rfl _ _ _ rfl 9 i1 _ 1 16 Tryz.underlying36 hi1 hy0 hy1 hy2 rfl (by omega) (SG.out.sep.junk _) 1 q A.length c _ rfl rfl _ 1 1 _ rfl (Rd.new _ _ _ 1 1 rfl (by omega)) (one_str _) (by omega) (by omega) ?_; intro u' e' w4 S' hsz; have hlk := (S'.mapT 2 rfl).lookup (t := 52) Tryz.underlying9 Tryz.underlying52 (zeroL _) HSS.out; rw [HFN.out] at hlk; have hlk2 : (Instr.lookup 52 (.map (some w1.heap.size)) (.string s) false).run Tryz.prog w4 = .ok (.slice none 0 0) w4 := hlk; have S3 := Lib.hid (S'.rowsNil 0 rfl); clear S' hsz ST1 ST2 hlk hlk1))
              | (at_builtin; go_must (refine wpList_append_rows rfl _ _ _ rfl i2 _ 8 Tryz.underlying34 hi2 hx0 hx1 hx2 rfl (by omega) (S3.out.junk _) 0 rfl A.length none 0 0 [] HRG.out rfl _ 1 1 _ rfl (Rd.new _ _ _ 1 1 rfl (by omega)) (one_int _) (by omega) (by omega) ?_; intro q2 c2 w5 S' hsz; have S4 := Lib.hid S'; clear S' hsz))
              | (at_mapUpdate; go_must (refine wpList_updateT_sep rfl _ _ _ _ rfl Tryz.underlying9 Tryz.underlying52 rfl S4.out 2 rfl (by have := HOL.out; omega) s (.slice q2 1 c2) rfl rfl HSS.out ?_; intro w6 S' hg; have S5 := Lib.hid S'; clear S' hg)))
            go_roundw
            case rel => exact ⟨j + 1, u', e', A ++ [(s, [(k:Int)])], hs' ++ [⟨q2, 1, c2⟩], _, by omega, by go_num, by rw [List.length_append]; rfl, by rw [HT.out, ← List.append_assoc]; exact SG.out.new HIN.out S5.out⟩
            case measure => simp [intOf]; omega
        · obtain rfl : j = (nth hs k).n := by omega
          have HT : Hid ((nth W k).take (nth hs k).n = nth W k) := by unfold Hid; rw [List.take_of_length_le (by rw [← L3.out]; omega)]
          rw [HT.out, ← occK_step] at G
          have SG := Lib.hid G; clear G
          go_wp2
          go_roundw
          case rel => exact ⟨k + 1, q, c, A, hs', f, by omega, by go_num, rfl, SG.out⟩
          case measure => simp [intOf]; omega
    · obtain rfl : k = nw := by omega
      have hAl : A.length ≤ 1600 := by
        have h1 := G.gath.len
        have h2 := HO.out k (by rw [← L2.out]; exact hk)
        omega
      rw [show occK W k = occK W W.length from by rw [← L2.out]] at G
      have hK := G.gath.sorted
      obtain ⟨K, hKd⟩ : ∃ K, K = putAll sLess W.flatten := ⟨_, rfl⟩
      have hKm : ∀ s, s ∈ K ↔ s ∈ A.map (·.1) := fun s => by rw [hKd, putAll_mem stoS, ← occK_mem, G.gath.keys]
      have hKl : K.length = A.length := by rw [hKd, ← hK, sortT_len, List.length_map]
      have hL : makeP W = K.map fun s => (s, plc (occK W W.length) s) := by unfold makeP; rw [hKd]
      rw [← hKd] at hK
      clear hKd
      have HK := Lib.hid hK; clear hK
      have HKM := Lib.hid hKm; clear hKm
      have HKL := Lib.hid hKl; clear hKl
      have hLl : (K.map fun s => (s, plc (occK W W.length) s)).length = A.length := by rw [List.length_map, HKL.out]
      have hLk : ∀ i, i < A.length → nth (K.map fun s => (s, plc (occK W W.length) s)) i = (nth K i, plc (occK W W.length) (nth K i)) := fun i hi => by
        rw [nth_eq (by rw [hLl]; exact hi), List.getElem_map, nth_eq (by rw [HKL.out]; exact hi)]
      have hFl : (K.map (hdOf f)).length = A.length := by rw [List.length_map, HKL.out]
      have hFk : ∀ i, i < A.length → nth (K.map (hdOf f)) i = hdOf f (nth K i) := fun i hi => by
        rw [nth_eq (by rw [hFl]; exact hi), List.getElem_map, nth_eq (by rw [HKL.out]; exact hi)]
      have hlook : ∀ i, i < A.length → _ := fun i hi => G.look (s := nth K i) ((HKM.out _).1 (by rw [nth_eq (by rw [HKL.out]; exact hi)]; exact List.getElem_mem _))
      obtain ⟨L, hLd⟩ : ∃ L, L = K.map fun s => (s, plc (occK W W.length) s) := ⟨_, rfl⟩
      obtain ⟨F, hFd⟩ : ∃ F, F = K.map (hdOf f) := ⟨_, rfl⟩
      rw [← hLd] at hLl hLk hL
      rw [← hFd] at hFl hFk
      clear hLd hFd
      have G0 := Lib.hid G
      clear G
      have HMK := Lib.hid hL; clear hL
      have HLL := Lib.hid hLl; clear hLl
      have HLK := Lib.hid hLk; clear hLk
      have HFL := Lib.hid hFl; clear hFl
      have HFK := Lib.hid hFk; clear hFk
      have HLOOK := Lib.hid hlook; clear hlook
      go_wp2_with (go_at_call 17; go_must (refine (SortT_sep G0.out.sep 1 rfl (by omega)).mono ?_; rintro e w2 ⟨rfl, S'⟩; rw [HK.out] at S'; have S3 := Lib.hid (S'.nilrow 55 2); clear S'))
      go_loopw [10, 12, 54] (fun v _ i wr => ∃ (m : Nat) (q1 : Option Addr) (c1 : Nat), m ≤ A.length ∧ i = .int .i64 m ∧ v = .slice q1 m c1 ∧ Sep w wr [.own 55 2 q1 m c1 (encPo (L.take m) (F.take m)), .rowsD 3 1 (rowsP A hs'), .own 9 1 q A.length c (encS K), .mapT Tryz.prog 9 w1.heap.size (occK W W.length).length f, .blk w.heap.size 25 #[.int .i64 N, .slice pe ne ce, .slice pw k cw]]) (fun _ _ i _ => A.length - (intOf i).toNat)
      case atStart => exact ⟨0, none, 0, Nat.zero_le _, rfl, rfl, S3.out⟩
      case round =>
        clear S3
        obtain ⟨m, q1, c1, hm, rfl, rfl, S⟩ := hrel
        by_cases hmt : m < A.length
        · obtain ⟨r, hr, hrs, hfr, hn1, hn2, hn3, hss⟩ := HLOOK.out m hmt
          have g3 := (S.rd 2 rfl (by omega)).cS hmt
          have p4 := (S.rd 2 rfl (by omega)).ptr
          have hlk := (S.mapT 3 rfl).lookup (t := 52) Tryz.underlying9 Tryz.underlying52 (zeroL _) hss
          rw [hfr] at hlk
          have hlk1 : (Instr.lookup 52 (.map (some w1.heap.size)) (.string (nth K m)) false).run Tryz.prog wr = .ok (.slice (nth hs' r).p (nth hs' r).n (nth hs' r).c) wr := hlk
          have hF := HFK.out m hmt
          rw [hdOf_eq hfr] at hF
          have hL := HLK.out m hmt
          have hT1 := take_succ_nth L m (by rw [HLL.out]; exact hmt)
          have hT2 := take_succ_nth F m (by rw [HFL.out]; exact hmt)
          rw [hL] at hT1
          rw [hF] at hT2
          have hT3 : Hid ((F.take m).length = (L.take m).length) := by unfold Hid; rw [List.length_take, List.length_take, HFL.out, HLL.out]
          have d5 : (0:Int) ≤ m := by omega
          have d6 : (m:Int) < A.length := by omega
          have zb := S.blk 4 rfl
          have HT1 := Lib.hid hT1; clear hT1
          have HT2 := Lib.hid hT2; clear hT2
          have SH := Lib.hid S; clear S
          clear hlk hF hL hfr hn1 hn2 hss hrs zb
          obtain ⟨s, hs1⟩ : ∃ s, s = nth K m := ⟨_, rfl⟩
          rw [← hs1] at g3 hlk1 HT1
          clear hs1
          obtain ⟨hd, hhd⟩ : ∃ hd, hd = nth hs' r := ⟨_, rfl⟩
          rw [← hhd] at hlk1 HT2
          clear hhd
          go_wp2_with (at_builtin; go_must (refine wpList_append_sep rfl _ _ _ rfl 55 i0 _ 2 40 Tryz.underlying30 hi0 hz0 hz1 hz2 rfl (by omega) (SH.out.junk _) 0 q1 m c1 _ rfl rfl _ 1 1 _ rfl (Rd.new _ _ _ 1 2 rfl (by omega)) (one_P _ _ _ _) (by omega) (by omega) ?_; intro u' e' w4 S' hsz; have S4 := Lib.hid S'; clear S' hsz))
          go_roundw
          case rel => exact ⟨m + 1, u', e', by omega, by go_num, rfl, by rw [HT1.out, HT2.out, encPo_snoc _ _ _ _ hT3.out]; exact S4.out⟩
          case measure => simp [intOf]; omega
        · obtain rfl : m = A.length := by omega
          have hT1 : L.take A.length = L := List.take_of_length_le (by rw [HLL.out]; omega)
          have hT2 : F.take A.length = F := List.take_of_length_le (by rw [HFL.out]; omega)
          rw [hT1, hT2] at S
          have HR := Lib.hid (RdP.of_rows S 1 0 rfl rfl (by rw [HFL.out, HLL.out]) fun a ha => by
            rw [HLL.out] at ha
            obtain ⟨r, hr, hrs, hfr, _⟩ := HLOOK.out a ha
            have hF := HFK.out a ha
            rw [hdOf_eq hfr] at hF
            rw [hF, HLK.out a ha]
            have hm := List.mem_of_getElem? (rowsP_get G0.out.len hr)
            rw [G0.out.gath.at_ (nth A r) (by rw [nth_eq hr]; exact List.getElem_mem _), hrs] at hm
            exact hm)
          have SH := Lib.hid S; clear S
          clear hT1 hT2
          go_wp2
          go_ret2
          exact ⟨q1, A.length, c1, F, rfl, by rw [HMK.out]; exact HR.out, SH.out.ext⟩
theorem MakeG (N : Int) (pe : Option Addr) (ne ce : Nat) (pw : Option Addr) (nw cw : Nat) (E : List (Int × Int)) (hs : List Hd) (W : List (List ByteArray)) (w : World) (hE : Rd w 2 pe ne (encE E)) (hW : RdW w pw nw hs W) (hz : SzW W) :
    Calls Tryz.prog 6 #[.agg #[.int .i64 N, .slice pe ne ce, .slice pw nw cw]] w fun e w' => (isB N E W = false ∧ e = .returned (.tuple #[.slice none 0 0, .int .i64 20]) ∨ isB N E W = true ∧ ∃ q n c hs', e = .returned (.tuple #[.slice q n c, .int .i64 0]) ∧ RdP w' q n hs' (makeP W)) ∧ Ext w w' := by
  by_cases hc : isB N E W = true
  · exact (MakeG_yes N pe ne ce pw nw cw E hs W w hE hW hz hc).mono fun e w' ⟨q, n, c, hs', h1, h2, h3⟩ => ⟨.inr ⟨hc, q, n, c, hs', h1, h2⟩, h3⟩
  · have hc' : isB N E W = false := by simpa using hc
    exact (MakeG_no N pe ne ce pw nw cw E hs W w hE hW hz hc').mono fun e w' ⟨h1, h2⟩ => ⟨.inl ⟨hc', h1⟩, h2⟩
end Go.Proofs.YtcjkechemjdboaaGreat
namespace Go.Proofs.YtcjkechemjdboaaGreat
open Go Go.RowKit
end Go.Proofs.YtcjkechemjdboaaGreat
namespace Go.Proofs.YtcjkechemjdboaaGreat
open Go Go.RowKit
end Go.Proofs.YtcjkechemjdboaaGreat
namespace Go.Proofs.YtcjkechemjdboaaGreat
open Go Go.RowKit
end Go.Proofs.YtcjkechemjdboaaGreat
/- The reference's Make of postings. -/
namespace Go.Proofs.YtcjkechemjdboaaGreat
open Go Go.RowKit
theorem flatW_len {W : List (List ByteArray)} (h : ∀ l ∈ W, l.length ≤ 8) : ∀ k, (W.take k).flatten.length ≤ 8 * k
  | 0 => by simp
  | k + 1 => by
    by_cases hk : k < W.length
    · have ih := flatW_len h k
      rw [take_succ_nth W k hk, List.flatten_append, List.length_append]
      have h2 := h (nth W k) (by rw [nth_eq hk]; exact List.getElem_mem _)
      have h3 : ([nth W k] : List (List ByteArray)).flatten.length = (nth W k).length := by simp
      omega
    · have ih := flatW_len h k
      rw [List.take_of_length_le (by omega)] at ih ⊢; omega
theorem flatW_step {W : List (List ByteArray)} {k : Nat} (h : k < W.length) : (W.take (k + 1)).flatten = (W.take k).flatten ++ nth W k := by
  rw [take_succ_nth W k h, List.flatten_append]; simp
end Go.Proofs.YtcjkechemjdboaaGreat
namespace Go.Proofs.YtcjkechemjdboaaGreat
open Go Go.RowKit
theorem inf35 : (Tryz.prog.info? 36).map (fun i => (i.zero, i.size, i.bytes)) = some (some (.slice none 0 0), 1, 24) := by kernel_rfl
/-- a graph in memory of the call's own, read alone -/
def GraphR (w : World) (v : Value) (N : Int) (E : List (Int × Int)) (W : List (List ByteArray)) : Prop :=
  ∃ pe ne ce pw nw cw hs, v = .agg #[.int .i64 N, .slice pe ne ce, .slice pw nw cw] ∧ Rd w 2 pe ne (encE E) ∧ ne ≤ ce ∧ RdW w pw nw hs W ∧ nw ≤ cw
end Go.Proofs.YtcjkechemjdboaaGreat
/- The program's Normal: a graph in memory of its own. -/
namespace Go.Proofs.YtcjkechemjdboaaGreat
open Go Go.RowKit Go.Shelf Go.Lib Go.Sort
theorem allLt_zero {p : Nat → Prop} : ∀ i, i < 0 → p i := fun i h => absurd h (Nat.not_lt_zero i)
theorem allLt_succ {n : Nat} {p : Nat → Prop} (h : ∀ i, i < n → p i) (hn : p n) : ∀ i, i < n + 1 → p i := fun i hi => by
  rcases Nat.lt_or_ge i n with h1 | h1
  · exact h i h1
  · obtain rfl : i = n := by omega
    exact hn
/-- a graph in memory of the call's own -/
def GraphO (w : World) (base : Nat) (v : Value) (N : Int) (E : List (Int × Int)) (W : List (List ByteArray)) : Prop :=
  ∃ pe ce pw cw hs, v = .agg #[.int .i64 N, .slice pe E.length ce, .slice pw W.length cw] ∧ w.ownsRow base 42 2 (.slice pe E.length ce) E.length (encE E) ∧ OwnW w base pw W.length cw hs W
set_option maxRecDepth 100000 in
set_option maxHeartbeats 1000000 in
theorem NormalG_no (N : Int) (pe : Option Addr) (ne ce : Nat) (pw : Option Addr) (nw cw : Nat) (E : List (Int × Int)) (hs : List Hd) (W : List (List ByteArray)) (w : World) (hE : Rd w 2 pe ne (encE E)) (hW : RdW w pw nw hs W) (hz : SzW W) (hc : checkB N E W = false) :
    Calls Tryz.prog 5 #[.agg #[.int .i64 N, .slice pe ne ce, .slice pw nw cw]] w fun e w' => e = .returned (.tuple #[.agg #[.int .i64 0, .slice none 0 0, .slice none 0 0], .int .i64 20]) ∧ Ext w w' := by
  have HE := Lib.hid hE; clear hE
  have HW := Lib.hid hW; clear hW
  have HZ := Lib.hid hz; clear hz
  go_enter Tryz.func5, Tryz.ntmps5
  go_wp2_with (go_at_call 11; refine (CheckG _ _ _ _ _ _ _ E hs W _ (HE.out.ext (alloc2 w _ _).2.2) (HW.out.ext (alloc2 w _ _).2.2) HZ.out).mono ?_; rintro e w1 ⟨rfl, hb1⟩; have BR : Blk w1 (w.heap.size + 1) _ _ := (hb1.block _ (by simp)).trans (alloc2 w _ _).2.1; have r0 := BR.cell 0; have r1 := BR.cell 1; have r2 := BR.cell 2; have k0 := BR.frozen 0; have k1 := BR.frozen 1; have k2 := BR.frozen 2; have HB := Lib.hid (Ext.trans (alloc2 w _ _).2.2 hb1); have BR0 := Lib.hid BR; clear BR hb1)
  have B0 := BR0.out
  have B1 := B0.set_ 0 (.int .i64 0)
  have B2 := B1.set_ 1 (.slice none 0 0)
  have c0 := (B2.set_ 2 (.slice none 0 0)).cell 0
  have c1' := (B2.set_ 2 (.slice none 0 0)).cell 1
  have c2 := (B2.set_ 2 (.slice none 0 0)).cell 2
  refine bodyPost_ret (v := .tuple #[.agg #[.int .i64 0, .slice none 0 0, .slice none 0 0], .int .i64 20]) (by simp [results, Tryz.results5, go_sem, c0, c1', c2, Tryz.sizeOf25, Tryz.isAgg25]) rfl ⟨rfl, ?_⟩
  exact ((HB.out.setCell (by simp) _).setCell (by simp) _).setCell (by simp) _
/-- what the operations of the first composite tell -/
def R3 (b : Nat) (wz N : Nat) (pe : Option Addr) (ne ce : Nat) (D : List (Int × Int)) (i : Nat) (v : Value) (W : World) : Prop :=
  match i with
  | 0 => v = .pointer (some ⟨b, 0, none⟩)
  | 1 => v = .int .i64 N
  | 2 => v = .pointer (some ⟨b, 1, none⟩)
  | 3 => v = .slice pe ne ce
  | 4 => v = .agg #[.func (.func 31) #[] #[]]
  | 5 => ∃ q c, v = .slice q D.length c ∧ W.ownsRow wz 42 2 (.slice q D.length c) D.length (encE D)
  | 6 => ∃ q c, v = .agg #[.int .i64 N, .slice q D.length c, .slice none 0 0] ∧ W.ownsRow wz 42 2 (.slice q D.length c) D.length (encE D)
  | 7 => ∃ g, v = .pointer (some ⟨g, 0, none⟩) ∧ wz ≤ g ∧ Blk W g 25 #[.int .i64 0, .slice none 0 0, .slice none 0 0]
  | _ => True
theorem R3_mono {b wz N : Nat} {pe : Option Addr} {ne ce : Nat} {D : List (Int × Int)} : ∀ i v W W', Ext W W' → R3 b wz N pe ne ce D i v W → R3 b wz N pe ne ce D i v W' := by
  intro i v W W' he h
  match i with
  | 0 => exact h
  | 1 => exact h
  | 2 => exact h
  | 3 => exact h
  | 4 => exact h
  | 5 => obtain ⟨q, c, h1, h2⟩ := h; exact ⟨q, c, h1, he.own h2⟩
  | 6 => obtain ⟨q, c, h1, h2⟩ := h; exact ⟨q, c, h1, he.own h2⟩
  | 7 => obtain ⟨g, h1, h2, h3⟩ := h; exact ⟨g, h1, h2, h3.ext he⟩
  | _ + 8 => trivial
/-- what the operations of the loop's append tell -/
def R7 (wz g : Nat) (qh : Option Addr) (j ch : Nat) (pl : Option Addr) (nl cl : Nat) (D : List ByteArray) (i : Nat) (v : Value) (W : World) : Prop :=
  match i with
  | 0 => v = .pointer (some ⟨g, 2, none⟩)
  | 1 => v = .slice qh j ch
  | 2 => v = .slice pl nl cl
  | 3 => v = .agg #[.func (.func 37) #[] #[]]
  | 4 => ∃ q c, v = .slice q D.length c ∧ W.ownsRow wz 9 1 (.slice q D.length c) D.length (encS D)
  | 5 => ∃ q c a, v = .slice a 1 1 ∧ Rd W 1 a 1 [.slice q D.length c] ∧ W.ownsRow wz 9 1 (.slice q D.length c) D.length (encS D)
  | _ => True
theorem R7_mono {wz g : Nat} {qh : Option Addr} {j ch : Nat} {pl : Option Addr} {nl cl : Nat} {D : List ByteArray} : ∀ i v W W', Ext W W' → R7 wz g qh j ch pl nl cl D i v W → R7 wz g qh j ch pl nl cl D i v W' := by
  intro i v W W' he h
  match i with
  | 0 => exact h
  | 1 => exact h
  | 2 => exact h
  | 3 => exact h
  | 4 => obtain ⟨q, c, h1, h2⟩ := h; exact ⟨q, c, h1, he.own h2⟩
  | 5 => obtain ⟨q, c, a, h1, h2, h3⟩ := h; exact ⟨q, c, a, h1, h2.ext he, he.own h3⟩
  | _ + 6 => trivial
set_option maxRecDepth 100000 in
set_option maxHeartbeats 2000000 in
theorem NormalG_yes (N : Int) (pe : Option Addr) (ne ce : Nat) (pw : Option Addr) (nw cw : Nat) (E : List (Int × Int)) (hs : List Hd) (W : List (List ByteArray)) (w : World) (hE : Rd w 2 pe ne (encE E)) (hW : RdW w pw nw hs W) (hz : SzW W) (hc : checkB N E W = true) :
    Calls Tryz.prog 5 #[.agg #[.int .i64 N, .slice pe ne ce, .slice pw nw cw]] w fun e w' => ∃ v, e = .returned (.tuple #[v, .int .i64 0]) ∧ GraphO w' w.heap.size v N (dedup (sortBy lessE E)) (W.map fun l => dedup (sortBy sLess l)) ∧ Ext w w' := by
  obtain ⟨j0, hj0, hy0, hy1, hy2⟩ := info_parts inf35
  obtain ⟨_, hN, hE2, hWN, _, hW8⟩ := checkB_parts hc
  have hW9 := rowOk_len hW8
  have p1 := hE.ptr
  have p2 := hW.row.ptr
  have l1 := hE.nE
  have l2 := hW.nW
  have n1 : ne ≤ 2000 := by omega
  have n2 : nw ≤ 200 := by omega
  obtain rfl : N = (nw : Int) := by omega
  have HE := Lib.hid hE; clear hE
  have HW := Lib.hid hW; clear hW
  have HZ := Lib.hid hz; clear hz
  have L1 := Lib.hid l1; clear l1
  have L2 := Lib.hid l2; clear l2
  have H9 := Lib.hid hW9; clear hW9
  clear hW8 hE2 hN hWN
  go_enter Tryz.func5, Tryz.ntmps5
  go_wp2_with (go_at_call 11; refine (CheckG _ _ _ _ _ _ _ E hs W _ (HE.out.ext (alloc2 w _ _).2.2) (HW.out.ext (alloc2 w _ _).2.2) HZ.out).mono ?_; rintro e w1 ⟨rfl, hb1⟩; have BG : Blk w1 w.heap.size _ _ := (hb1.block _ (by simp; omega)).trans (alloc2 w _ _).1; have BR : Blk w1 (w.heap.size + 1) _ _ := (hb1.block _ (by simp)).trans (alloc2 w _ _).2.1; have g0 := BG.cell 0; have g1 := BG.cell 1; have zb := BR.lt; have HB := Lib.hid (Ext.trans (alloc2 w _ _).2.2 hb1); have BR0 := Lib.hid BR; have BG0 := Lib.hid BG; clear BR BG hb1)
  refine wp_region_head 8 [11, 12, 13, 14, 15, 16, 17, 4] (R3 w.heap.size w1.heap.size nw pe ne ce (dedup (sortBy lessE E))) (by kernel_rfl) (by kernel_rfl) (by kernel_rfl) R3_mono ?_ ?_
  · refine allLt_succ (allLt_succ (allLt_succ (allLt_succ (allLt_succ (allLt_succ (allLt_succ (allLt_succ allLt_zero ?_) ?_) ?_) ?_) ?_) ?_) ?_) ?_ <;> intro ev vs W2 hE2 hin hout hcs hf hg hd o ho <;> obtain rfl := Option.some.inj ho
    · have e1 := hout 1 rfl
      simp [go_sem] at e1
      simp [execOp, go_sem, e1]
      exact ⟨rfl, Below.refl _ _⟩
    · have e1 : _ = Value.pointer _ := (hin 11 0 rfl).trans (hd 0 (by decide))
      have c := (BG0.out.ext hE2).cell 0
      simp [execOp, go_sem, e1, c]
      exact ⟨rfl, Below.refl _ _⟩
    · have e1 := hout 1 rfl
      simp [go_sem] at e1
      simp [execOp, go_sem, e1]
      exact ⟨rfl, Below.refl _ _⟩
    · have e1 : _ = Value.pointer _ := (hin 13 2 rfl).trans (hd 2 (by decide))
      have c := (BG0.out.ext hE2).cell 1
      simp [execOp, go_sem, e1, c]
      exact ⟨rfl, Below.refl _ _⟩
    · have e1 := hf 13
      simp [go_sem] at e1
      simp [execOp, go_sem, e1]
      exact (EdgesG W2).mono fun e w' ⟨h1, h2⟩ => ⟨_, h1, rfl, h2⟩
    · have e1 := hf 12
      have e2 : _ = Value.slice _ _ _ := (hin 14 3 rfl).trans (hd 3 (by decide))
      have e3 : _ = Value.agg _ := (hin 15 4 rfl).trans (hd 4 (by decide))
      simp [go_sem] at e1
      simp [execOp, go_sem, e1, e2, e3]
      exact (OnceE _ _ _ E W2 (HE.out.ext (Ext.trans HB.out hE2)) (by omega)).mono fun e w' ⟨q, c, h1, h2, h3⟩ => ⟨_, h1, ⟨q, c, rfl, own_base h2 hE2.size⟩, h3⟩
    · have e1 : _ = Value.int _ _ := (hin 12 1 rfl).trans (hd 1 (by decide))
      obtain ⟨q, c, e2, e3⟩ := (hd 5 (by decide) : R3 _ _ _ _ _ _ _ 5 (vs 5) W2)
      have e4 := (hin 16 5 rfl).trans e2
      simp [execOp, go_sem, e1, e4]
      exact ⟨⟨q, c, rfl, e3⟩, Below.refl _ _⟩
    · simp [execOp, go_sem]
      exact ⟨⟨_, rfl, hE2.size, Blk.new _ _ _⟩, (Below.refl _ _).alloc (Nat.le_refl _) _⟩
  · intro vs W2 hE2 hR
    have r0 : vs 0 = _ := hR 0 (by decide)
    have r1 : vs 1 = _ := hR 1 (by decide)
    have r2 : vs 2 = _ := hR 2 (by decide)
    have r3 : vs 3 = _ := hR 3 (by decide)
    have r4 : vs 4 = _ := hR 4 (by decide)
    obtain ⟨q5, c5, r5, _⟩ := hR 5 (by decide)
    obtain ⟨q, cq, r6, own⟩ := hR 6 (by decide)
    obtain ⟨g, r7, hg, BO⟩ := hR 7 (by decide)
    simp only [putHd, List.mapIdx_toArray, List.mapIdx_cons, List.mapIdx_nil, Nat.zero_add, Nat.reduceAdd]
    simp [List.idxOf?_cons, List.idxOf?_nil, r0, r1, r2, r3, r4, r5, r6, r7]
    have s2 := hE2.size
    have hbw : w.heap.size + 1 < W2.heap.size := by omega
    have B1 := BO.set_ 0 (.int .i64 nw)
    have B2 := B1.set_ 1 (.slice q (dedup (sortBy lessE E)).length cq)
    have B3 := B2.set_ 2 (.slice none 0 0)
    have BOx := Lib.hid B3
    have OEx := Lib.hid (own_set (own_set (own_set own BO (by decide) 0 (.int .i64 nw)) B1 (by decide) 1 (.slice q (dedup (sortBy lessE E)).length cq)) B2 (by decide) 2 (.slice none 0 0))
    have b0 := BO.cell 0
    have b1 := BO.cell 1
    have b2 := BO.cell 2
    have f0 := BO.frozen 0
    have f1 := BO.frozen 1
    have f2 := BO.frozen 2
    have HGL := Lib.hid BO.lt
    have hgw : w.heap.size + 1 < g := by omega
    have BGx := Lib.hid ((((BG0.out.ext hE2).far (p := ⟨g, 0, none⟩) (by simp; omega) (.int .i64 nw)).far (p := ⟨g, 1, none⟩) (by simp; omega) (.slice q (dedup (sortBy lessE E)).length cq)).far (p := ⟨g, 2, none⟩) (by simp; omega) (.slice none 0 0))
    have BRx := Lib.hid ((((BR0.out.ext hE2).far (p := ⟨g, 0, none⟩) (by simp; omega) (.int .i64 nw)).far (p := ⟨g, 1, none⟩) (by simp; omega) (.slice q (dedup (sortBy lessE E)).length cq)).far (p := ⟨g, 2, none⟩) (by simp; omega) (.slice none 0 0))
    have HX := Lib.hid ((((Ext.trans HB.out hE2).setCell (p := ⟨g, 0, none⟩) (by simp; omega) (.int .i64 nw)).setCell (p := ⟨g, 1, none⟩) (by simp; omega) (.slice q (dedup (sortBy lessE E)).length cq)).setCell (p := ⟨g, 2, none⟩) (by simp; omega) (.slice none 0 0))
    have gx := BGx.out.cell 2
    clear g0 g1 BG0 BR0 HB B1 B2 B3 own BO
    go_wp2
    go_loopw [6, 21] (fun _ i wr => ∃ (j : Nat) (qh : Option Addr) (ch : Nat) (hs' : List Hd), j ≤ nw ∧ i = .int .i64 j ∧ OwnW wr W2.heap.size qh j ch hs' ((W.take j).map fun l => dedup (sortBy sLess l)) ∧ wr.ownsRow w1.heap.size 42 2 (.slice q (dedup (sortBy lessE E)).length cq) (dedup (sortBy lessE E)).length (encE (dedup (sortBy lessE E))) ∧
        Blk wr w.heap.size 25 #[.int .i64 nw, .slice pe ne ce, .slice pw nw cw] ∧ Blk wr (w.heap.size + 1) 25 #[.int .i64 0, .slice none 0 0, .slice none 0 0] ∧ Blk wr g 25 #[.int .i64 nw, .slice q (dedup (sortBy lessE E)).length cq, .slice qh j ch] ∧ Ext w wr ∧ W2.heap.size ≤ wr.heap.size) (fun _ i _ => nw - (intOf i).toNat)
    case atStart => exact ⟨0, none, 0, [], Nat.zero_le _, rfl, OwnW.nil _ _, OEx.out, BGx.out, BRx.out, BOx.out, HX.out, by simp [World.setCell]⟩
    case round =>
      clear gx OEx BGx BRx BOx HX
      obtain ⟨j, qh, ch, hs', hj, rfl, OW, OE, BG, BR, BO, HB, HZZ⟩ := hrel
      have g2 := BG.cell 2
      have o0 := BO.cell 0
      have o1 := BO.cell 1
      have o2 := BO.cell 2
      have r0 := BR.cell 0
      have r1 := BR.cell 1
      have r2 := BR.cell 2
      have q0 := BR.frozen 0
      have q1 := BR.frozen 1
      have q2 := BR.frozen 2
      have OW0 := Lib.hid OW; clear OW
      have OE0 := Lib.hid OE; clear OE
      have BG0 := Lib.hid BG; clear BG
      have BR0 := Lib.hid BR; clear BR
      have BO0 := Lib.hid BO; clear BO
      have HB0 := Lib.hid HB; clear HB
      by_cases hjt : j < nw
      · have gh := HB0.out.cell (HW.out.row.cH hjt)
        have QS := Lib.hid ((HW.out.each j hjt).ext HB0.out)
        have hlen : (nth hs j).n ≤ 8 := by rw [QS.out.nS]; exact H9.out _ (by rw [nth_eq (by rw [← L2.out]; exact hjt)]; exact List.getElem_mem _)
        have HT2 := Lib.hid (map_take_succ (fun l => dedup (sortBy sLess l)) W j (by rw [← L2.out]; exact hjt))
        have m1 : (nth hs j).n ≤ 1000000 := by omega
        have m3 : (j + 1) * 24 ≤ 140737488355328 := by omega
        have m4 : j + 1 ≤ 140737488355328 := by omega
        have M3 := Lib.hid m3; clear m3
        have M4 := Lib.hid m4; clear m4
        go_wp2
        refine wp_region_head 6 [25, 26, 27, 28, 29, 30] (R7 wr.heap.size g qh j ch (nth hs j).p (nth hs j).n (nth hs j).c (dedup (sortBy sLess (nth W j)))) (by kernel_rfl) (by kernel_rfl) (by kernel_rfl) R7_mono ?_ ?_
        · refine allLt_succ (allLt_succ (allLt_succ (allLt_succ (allLt_succ (allLt_succ allLt_zero ?_) ?_) ?_) ?_) ?_) ?_ <;> intro ev vs W3 hE3 hin hout hcs hf hg3 hd o ho <;> obtain rfl := Option.some.inj ho
          · have e1 := hout 4 rfl
            simp [go_sem] at e1
            simp [execOp, go_sem, e1]
            exact ⟨rfl, Below.refl _ _⟩
          · have e1 : _ = Value.pointer _ := (hin 25 0 rfl).trans (hd 0 (by decide))
            have c := (BO0.out.ext hE3).cell 2
            simp [execOp, go_sem, e1, c]
            exact ⟨rfl, Below.refl _ _⟩
          · have e1 := hout 6 rfl
            simp [go_sem] at e1
            simp [execOp, go_sem, e1]
            exact ⟨rfl, Below.refl _ _⟩
          · have e1 := hf 15
            simp [go_sem] at e1
            simp [execOp, go_sem, e1]
            exact (WordsG W3).mono fun e w' ⟨h1, h2⟩ => ⟨_, h1, rfl, h2⟩
          · have e1 := hf 14
            have e2 : _ = Value.slice _ _ _ := (hin 27 2 rfl).trans (hd 2 (by decide))
            have e3 : _ = Value.agg _ := (hin 28 3 rfl).trans (hd 3 (by decide))
            simp [go_sem] at e1
            simp [execOp, go_sem, e1, e2, e3]
            exact (OnceS _ _ _ (nth W j) W3 (QS.out.ext hE3) (by omega)).mono fun e w' ⟨q, c, h1, h2, h3⟩ => ⟨_, h1, ⟨q, c, rfl, own_base h2 hE3.size⟩, h3⟩
          · obtain ⟨q, c, e2, e3⟩ := (hd 4 (by decide) : R7 _ _ _ _ _ _ _ _ _ 4 (vs 4) W3)
            have e4 := (hin 29 4 rfl).trans e2
            simp [execOp, go_sem, e4]
            exact ⟨⟨q, c, _, rfl, Rd.oneH _ _ _ _ _, e3.alloc _⟩, (Below.refl _ _).alloc (Nat.le_refl _) _⟩
        · intro vs W3 hE3 hR3
          have r0 : vs 0 = _ := hR3 0 (by decide)
          have r1 : vs 1 = _ := hR3 1 (by decide)
          have r2 : vs 2 = _ := hR3 2 (by decide)
          have r3 : vs 3 = _ := hR3 3 (by decide)
          obtain ⟨q4, c4, r4, _⟩ := hR3 4 (by decide)
          obtain ⟨p', d', a', r5, RA, OR⟩ := hR3 5 (by decide)
          have OR1 := Lib.hid (own_base OR HZZ)
          have RA1 := Lib.hid RA
          have HX2 := Lib.hid hE3
          have OW2 := Lib.hid (OW0.out.ext hE3)
          have BO2 := Lib.hid (BO0.out.ext hE3)
          have BG2 := Lib.hid (BG0.out.ext hE3)
          have BR2 := Lib.hid (BR0.out.ext hE3)
          have OE2 := Lib.hid (hE3.own OE0.out)
          have HB2 := Lib.hid (Ext.trans HB0.out hE3)
          have hz3 : W2.heap.size ≤ W3.heap.size := Nat.le_trans HZZ hE3.size
          simp only [putHd, List.mapIdx_toArray, List.mapIdx_cons, List.mapIdx_nil, Nat.zero_add, Nat.reduceAdd]
          simp [List.idxOf?_cons, List.idxOf?_nil, r0, r1, r2, r3, r4, r5]
          clear r0 r1 r2 r3 r4 r5 OR RA hE3 hR3
          go_wp2_with (at_builtin; go_must ((refine wpList_append_rd rfl _ _ _ rfl W2.heap.size 36 j0 _ 1 24 Tryz.underlying23 hj0 hy0 hy1 hy2 rfl (by omega) qh j ch _ rfl OW2.out.row a' 1 1 _ rfl RA1.out (one_slice _ _ _) M3.out M4.out hz3 ?_; intro q3 c3 w3 own3 hg3 hat3 hl3; have BO3 : Blk w3 g _ _ := (hl3.block g HGL.out).trans BO2.out; have BG3 : Blk w3 w.heap.size _ _ := (hl3.block _ (by omega)).trans BG2.out; have BR3 : Blk w3 (w.heap.size + 1) _ _ := (hl3.block _ (by omega)).trans BR2.out; have HB3 := Lib.hid (Below.trans HB2.out (hl3.mono (by omega))); have OE3 := Lib.hid (own_grown OE2.out hg3 (own_own_ne OW2.out.row OE2.out (by decide))); have OW3 := Lib.hid (OwnW.push OW2.out OR1.out own3 hg3); have x2 := BO3.cell 2; have xf := BO3.frozen 2; have BO4 := Lib.hid BO3; have BG4 := Lib.hid BG3; have BR4 := Lib.hid BR3; have HS3 := hl3.size; clear own3 hg3 hat3 hl3 BO3 BG3 BR3)))
          go_roundw
          case rel => exact ⟨j + 1, q3, c3, _, by omega, by go_num, by rw [HT2.out]; exact OW3.out.set_ BO4.out (by decide) (by decide) _ _, own_set OE3.out BO4.out (by decide) _ _, BG4.out.far (by simp; omega) _, BR4.out.far (by simp; omega) _, BO4.out.set_ 2 _, HB3.out.setCell (by simp; omega) _, by simp [World.setCell]; omega⟩
          case measure => simp [intOf]; omega
      · have hjn : j = nw := by omega
        subst hjn
        have HT2 : Hid ((W.take j).map (fun l => dedup (sortBy sLess l)) = W.map (fun l => dedup (sortBy sLess l))) := by unfold Hid; rw [List.take_of_length_le (by rw [← L2.out]; omega)]
        go_wp2
        have B0 := BR0.out
        have B1 := B0.set_ 0 (.int .i64 j)
        have B2 := B1.set_ 1 (.slice q (dedup (sortBy lessE E)).length cq)
        have c0 := (B2.set_ 2 (.slice qh j ch)).cell 0
        have c1' := (B2.set_ 2 (.slice qh j ch)).cell 1
        have c2 := (B2.set_ 2 (.slice qh j ch)).cell 2
        refine bodyPost_ret (v := .tuple #[.agg #[.int .i64 j, .slice q (dedup (sortBy lessE E)).length cq, .slice qh j ch], .int .i64 0]) (by simp [results, Tryz.results5, go_sem, c0, c1', c2, Tryz.sizeOf25, Tryz.isAgg25]) rfl ⟨_, rfl, ?_, ?_⟩
        · have OW := ((OW0.out.set_ B0 (by decide) (by decide) 0 (.int .i64 j)).set_ B1 (by decide) (by decide) 1 (.slice q (dedup (sortBy lessE E)).length cq)).set_ B2 (by decide) (by decide) 2 (.slice qh j ch)
          have OE := own_set (own_set (own_set OE0.out B0 (by decide) 0 (.int .i64 j)) B1 (by decide) 1 (.slice q (dedup (sortBy lessE E)).length cq)) B2 (by decide) 2 (.slice qh j ch)
          rw [HT2.out] at OW
          have hl := OW.len
          exact ⟨q, cq, qh, ch, hs', by rw [← hl], own_base OE (by omega), by rw [← hl]; exact ⟨OW.hn, own_base OW.row (by omega), fun j hj => own_base (OW.each j hj) (by omega)⟩⟩
        · exact ((HB0.out.setCell (by simp) _).setCell (by simp) _).setCell (by simp) _
theorem NormalG0 (N : Int) (pe : Option Addr) (ne ce : Nat) (pw : Option Addr) (nw cw : Nat) (E : List (Int × Int)) (hs : List Hd) (W : List (List ByteArray)) (w : World) (hE : Rd w 2 pe ne (encE E)) (hW : RdW w pw nw hs W) (hz : SzW W) :
    Calls Tryz.prog 5 #[.agg #[.int .i64 N, .slice pe ne ce, .slice pw nw cw]] w fun e w' => ∃ v, e = .returned (.tuple #[v, .int .i64 (normC N E W)]) ∧ GraphO w' w.heap.size v (if checkB N E W then N else 0) (if checkB N E W then dedup (sortBy lessE E) else []) (if checkB N E W then W.map fun l => dedup (sortBy sLess l) else []) ∧ Ext w w' := by
  unfold normC
  by_cases hc : checkB N E W = true
  · simp only [hc, if_true]
    exact NormalG_yes N pe ne ce pw nw cw E hs W w hE hW hz hc
  · have hc' : checkB N E W = false := by simpa using hc
    simp only [hc']
    refine (NormalG_no N pe ne ce pw nw cw E hs W w hE hW hz hc').mono fun e w' ⟨he, hb⟩ => ⟨_, he, ?_, hb⟩
    exact ⟨none, 0, none, 0, [], rfl, World.ownsRow_nil _ _ _ _, OwnW.nil _ _⟩
end Go.Proofs.YtcjkechemjdboaaGreat
/- Plain facts of chapter 2 that many laws use: what is not looked at bounds what is; rows that are read. -/
namespace Go.Proofs.YtcjkechemjdboaaGreat
open Go Go.RowKit
theorem szW_of_big {E : List (Int × Int)} {W : List (List ByteArray)} (h : bigB E W = false) : SzW W := by
  unfold bigB at h
  simp only [Bool.or_eq_false_iff, Bool.and_eq_false_iff] at h
  obtain ⟨⟨⟨h1, h2⟩, _⟩, _⟩ := h
  have hw : W.length ≤ 250 := by simpa using h2
  have hb : W.any badRow = false := by
    rcases h1 with h1 | h1
    · simp at h1; omega
    · exact h1
  intro l hl s hs
  have h3 := List.any_eq_false.1 hb l hl
  unfold badRow at h3
  simp only [Bool.or_eq_true, not_or, Bool.not_eq_true] at h3
  have h4 := List.any_eq_false.1 h3.2 s hs
  unfold longB at h4
  simp at h4
  omega
theorem lens_of_big {E : List (Int × Int)} {W : List (List ByteArray)} (h : bigB E W = false) : E.length ≤ 2100 ∧ W.length ≤ 250 ∧ ∀ l ∈ W, l.length ≤ 20 := by
  unfold bigB at h
  simp only [Bool.or_eq_false_iff, Bool.and_eq_false_iff] at h
  obtain ⟨⟨⟨h1, h2⟩, _⟩, h4⟩ := h
  have hw : W.length ≤ 250 := by simpa using h2
  refine ⟨by simpa using h4, hw, fun l hl => ?_⟩
  have hb : W.any badRow = false := by
    rcases h1 with h1 | h1
    · simp at h1; omega
    · exact h1
  have h3 := List.any_eq_false.1 hb l hl
  unfold badRow at h3
  simp at h3
  omega
theorem norm_lens (N : Int) (E : List (Int × Int)) (W : List (List ByteArray)) (h1 : E.length ≤ 2100) (h2 : W.length ≤ 250) (h3 : ∀ l ∈ W, l.length ≤ 20) : (normE N E W).length ≤ 2100 ∧ (normW N E W).length ≤ 250 ∧ ∀ l ∈ normW N E W, l.length ≤ 20 := by
  unfold normE normW
  by_cases hc : checkB N E W = true
  · simp only [hc, if_true]
    refine ⟨Nat.le_trans (putAll_len _ _) h1, by rw [List.length_map]; exact h2, fun l hl => ?_⟩
    obtain ⟨l', hl', rfl⟩ := List.mem_map.1 hl
    exact Nat.le_trans (putAll_len _ _) (h3 l' hl')
  · have : checkB N E W = false := by simpa using hc
    simp only [this, Bool.false_eq_true, if_false]
    exact ⟨by simp, by simp, fun l hl => by cases hl⟩
theorem Blk.rd {W : World} {g : Nat} {t : TypeId} {cs : Array Value} (h : Blk W g t cs) {n size : Nat} {xs : List Value} (hx : cs.toList = xs) (hn : xs.length = n * size) (hs : n ≤ 9223372036854775807) : Rd W size (some ⟨g, 0, none⟩) n xs := by
  subst hx
  refine ⟨hn, .inr ⟨_, _, rfl⟩, hs, fun j hj => ?_⟩
  rw [adr_some, Nat.zero_add, h.cell j]
  rw [List.getD_eq_getElem?_getD, Array.getElem?_toList, Array.getElem?_eq_getElem (by simp at hn; omega)]
  rfl
theorem GraphO.rd {w : World} {base : Nat} {v : Value} {N : Int} {E : List (Int × Int)} {W : List (List ByteArray)} (h : GraphO w base v N E W) (h1 : E.length ≤ 9223372036854775807) (h2 : W.length ≤ 9223372036854775807) (h3 : ∀ l ∈ W, l.length ≤ 9223372036854775807) : GraphR w v N E W := by
  obtain ⟨pe, ce, pw, cw, hs, rfl, h5, h6⟩ := h
  exact ⟨pe, _, ce, pw, _, cw, hs, rfl, Rd.of_own h5 h1, own_cap h5, h6.rd h2 h3, own_cap h6.row⟩
theorem alloc3B (w : World) (c1 c2 c3 : Array Value) (t1 t2 t3 : TypeId) : Blk (((w.alloc (.cells c1 t1)).alloc (.cells c2 t2)).alloc (.cells c3 t3)) w.heap.size t1 c1 ∧ Blk (((w.alloc (.cells c1 t1)).alloc (.cells c2 t2)).alloc (.cells c3 t3)) (w.heap.size + 1) t2 c2 ∧
    Blk (((w.alloc (.cells c1 t1)).alloc (.cells c2 t2)).alloc (.cells c3 t3)) (w.heap.size + 1 + 1) t3 c3 ∧ Ext w (((w.alloc (.cells c1 t1)).alloc (.cells c2 t2)).alloc (.cells c3 t3)) := alloc3 _ _ _ _
theorem alloc2B (w : World) (c1 c2 : Array Value) (t1 t2 : TypeId) : Blk ((w.alloc (.cells c1 t1)).alloc (.cells c2 t2)) w.heap.size t1 c1 ∧ Blk ((w.alloc (.cells c1 t1)).alloc (.cells c2 t2)) (w.heap.size + 1) t2 c2 ∧ Ext w ((w.alloc (.cells c1 t1)).alloc (.cells c2 t2)) := alloc2 _ _ _
end Go.Proofs.YtcjkechemjdboaaGreat
/- What right postings are: the program's rise and Check, the reference's Check. -/
namespace Go.Proofs.YtcjkechemjdboaaGreat
open Go Go.RowKit Go.Maps
def okAt (n : Int) (l : List Int) (i : Nat) : Bool := decide (0 ≤ nth l i) && decide (nth l i < n) && (decide (i = 0) || decide (nth l (i - 1) < nth l i))
def riseP (n : Int) (l : List Int) : Bool := decide (0 < l.length) && (List.range l.length).all (okAt n l)
def okP (n : Int) (L : List Po) (i : Nat) : Bool := wordB (nth L i).1 && (decide (i = 0) || sLess (nth L (i - 1)).1 (nth L i).1) && riseP n (nth L i).2
def checkP (n : Int) (L : List Po) : Bool := decide (1 ≤ n) && decide (n ≤ 200) && (List.range L.length).all (okP n L)
theorem riseP_no {n : Int} {l : List Int} {k : Nat} (hk : k < l.length) (h : okAt n l k = false) : riseP n l = false := by
  unfold riseP; rw [range_all_no _ _ k hk h]; simp
theorem riseP_end {n : Int} {l : List Int} {k : Nat} (hk : ¬ k < l.length) (h : (List.range k).all (okAt n l) = true) : riseP n l = decide (0 < l.length) := by
  unfold riseP
  have : (List.range l.length).all (okAt n l) = true := by
    rw [List.all_eq_true] at h ⊢
    exact fun i hi => h i (List.mem_range.2 (by have := List.mem_range.1 hi; omega))
  rw [this]; simp
theorem checkP_no {n : Int} {L : List Po} {k : Nat} (hk : k < L.length) (h : okP n L k = false) : checkP n L = false := by
  unfold checkP; rw [range_all_no _ _ k hk h]; simp
theorem checkP_end {n : Int} {L : List Po} {k : Nat} (hk : ¬ k < L.length) (h : (List.range k).all (okP n L) = true) : checkP n L = (decide (1 ≤ n) && decide (n ≤ 200)) := by
  unfold checkP
  have : (List.range L.length).all (okP n L) = true := by
    rw [List.all_eq_true] at h ⊢
    exact fun i hi => h i (List.mem_range.2 (by have := List.mem_range.1 hi; omega))
  rw [this]; simp
set_option maxHeartbeats 1000000 in
theorem riseG (p : Option Addr) (m c : Nat) (l : List Int) (n : Int) (w : World) (hl : Rd w 1 p m (encI l)) :
    Calls Tryz.prog 24 #[.slice p m c, .int .i64 n] w fun e w' => e = .returned (.bool (riseP n l)) ∧ w = w' := by
  have p1 := hl.ptr
  have n1 := hl.small
  have l1 := hl.nI
  have HL := Lib.hid hl; clear hl
  have L1 := Lib.hid l1; clear l1
  go_enter Tryz.func24, Tryz.ntmps24
  go_wp2
  go_loop [5, 6, 9] (fun _ _ i => ∃ k : Nat, k ≤ m ∧ i = .int .i64 k ∧ (List.range k).all (okAt n l) = true) (fun _ _ i => m - (intOf i).toNat)
  case atStart => exact ⟨0, Nat.zero_le _, rfl, rfl⟩
  case round =>
    obtain ⟨k, hk, rfl, ha⟩ := hrel
    have HA := Lib.hid ha; clear ha
    by_cases hlt : k < m
    · have g1 := HL.out.cI hlt
      have d1 : (0:Int) ≤ k := by omega
      have d2 : (k:Int) < m := by omega
      by_cases h1 : nth l k < 0
      · have b1 : decide (nth l k < 0) = true := by simpa using h1
        go_wp2
        go_ret
        exact ⟨ret_bool (riseP_no (by rw [← L1.out]; exact hlt) (by unfold okAt; simp; omega)).symm, rfl⟩
      · have b1 : decide (nth l k < 0) = false := by simpa using h1
        by_cases h2 : n ≤ nth l k
        · have b2 : decide (n ≤ nth l k) = true := by simpa using h2
          go_wp2
          go_ret
          exact ⟨ret_bool (riseP_no (by rw [← L1.out]; exact hlt) (by unfold okAt; simp; omega)).symm, rfl⟩
        · have b2 : decide (n ≤ nth l k) = false := by simpa using h2
          by_cases h0 : k = 0
          · subst h0
            have HO : Hid (okAt n l 0 = true) := by unfold Hid okAt; simp; omega
            go_wp2
            go_round
            case rel => exact ⟨1, by omega, by go_num, range_all_succ _ _ HA.out HO.out⟩
            case measure => simp [intOf]; omega
          · have b3 : decide ((0:Int) < (k:Int)) = true := by simp; omega
            have d4 : (1:Int) ≤ (k:Int) := by omega
            have d5 : (k:Int) - 1 < m := by omega
            have d6 : (0:Int) ≤ (k:Int) - 1 := by omega
            have g2 := HL.out.cI (k := k - 1) (by omega)
            by_cases h3 : nth l k ≤ nth l (k - 1)
            · have b4 : decide (nth l k ≤ nth l (k - 1)) = true := by simpa using h3
              go_wp2
              go_ret
              exact ⟨ret_bool (riseP_no (by rw [← L1.out]; exact hlt) (by unfold okAt; simp; omega)).symm, rfl⟩
            · have b4 : decide (nth l k ≤ nth l (k - 1)) = false := by simpa using h3
              have HO : Hid (okAt n l k = true) := by unfold Hid okAt; simp; omega
              go_wp2
              go_round
              case rel => exact ⟨k + 1, by omega, by go_num, range_all_succ _ _ HA.out HO.out⟩
              case measure => simp [intOf]; omega
    · have HE := Lib.hid (riseP_end (by rw [← L1.out]; exact hlt) HA.out)
      go_wp2
      go_ret
      exact ⟨ret_bool (by rw [HE.out, ← L1.out]), rfl⟩
theorem WordX (s : ByteArray) (w : World) (hs : s.size ≤ 140737488355328) : Calls Tryz.prog 23 #[.string s] w fun e w' => e = .returned (.bool (wordB s)) ∧ Ext w w' :=
  (WordG s w hs).mono fun _ _ ⟨h, hw⟩ => ⟨h, by subst hw; exact Below.refl _ _⟩
theorem riseX (p : Option Addr) (m c : Nat) (l : List Int) (n : Int) (w : World) (hl : Rd w 1 p m (encI l)) :
    Calls Tryz.prog 24 #[.slice p m c, .int .i64 n] w fun e w' => e = .returned (.bool (riseP n l)) ∧ Ext w w' :=
  (riseG p m c l n w hl).mono fun _ _ ⟨h, hw⟩ => ⟨h, by subst hw; exact Below.refl _ _⟩
/-- texts that are not too long -/
def PoSz (L : List Po) : Prop := ∀ p ∈ L, p.1.size ≤ 1000000
theorem PoSz.at {L : List Po} (h : PoSz L) {k : Nat} (hk : k < L.length) : (nth L k).1.size ≤ 140737488355328 := by
  have := h (nth L k) (by rw [nth_eq hk]; exact List.getElem_mem _); omega
theorem sLess_eq (a b : ByteArray) : Op.bytesLess a.toList b.toList = sLess a b := rfl
set_option maxRecDepth 100000 in
set_option maxHeartbeats 2000000 in
theorem CheckP (p : Option Addr) (m c : Nat) (hs : List Hd) (L : List Po) (n : Int) (w : World) (hL : RdP w p m hs L) (hz : PoSz L) :
    Calls Tryz.prog 10 #[.slice p m c, .int .i64 n] w fun e w' => e = .returned (.bool (checkP n L)) ∧ Ext w w' := by
  have p1 := hL.ptr
  have n1 := hL.small
  have l1 := hL.hn
  have HL := Lib.hid hL; clear hL
  have L1 := Lib.hid l1; clear l1
  have HZ := Lib.hid hz; clear hz
  go_enter Tryz.func10, Tryz.ntmps10
  go_wp2
  go_loopw [5, 6, 9] (fun _ _ i wr => ∃ k : Nat, k ≤ m ∧ i = .int .i64 k ∧ (List.range k).all (okP n L) = true ∧ Sep w wr []) (fun _ _ i _ => m - (intOf i).toNat)
  case atStart => exact ⟨0, Nat.zero_le _, rfl, rfl, Sep.start w⟩
  case round =>
    obtain ⟨k, hk, rfl, ha, S⟩ := hrel
    have HA := Lib.hid ha; clear ha
    by_cases hlt : k < m
    · have g1 := S.ext.cell (HL.out.c1 k hlt)
      have g2 := S.ext.cell (HL.out.c2 k hlt)
      have RE := Lib.hid ((HL.out.each k hlt).ext S.ext)
      have SH := Lib.hid S; clear S
      have d1 : (0:Int) ≤ k := by omega
      have d2 : (k:Int) < m := by omega
      have hkL : k < L.length := by rw [← L1.out]; exact hlt
      have HW := Lib.hid (fun x : ExtOf (wr.alloc (.cells #[.string (nth L k).1, .slice (nth hs k).p (nth hs k).n (nth hs k).c] 55)) => WordX (nth L k).1 x.val (HZ.out.at hkL))
      have HR := Lib.hid (fun x : ExtOf (wr.alloc (.cells #[.string (nth L k).1, .slice (nth hs k).p (nth hs k).n (nth hs k).c] 55)) => riseX (nth hs k).p (nth hs k).n (nth hs k).c (nth L k).2 n x.val ((RE.out.ext (Ext.alloc (Below.refl _ _) _)).ext x.ext))
      have x1 := fun x : ExtOf (wr.alloc (.cells #[.string (nth L k).1, .slice (nth hs k).p (nth hs k).n (nth hs k).c] 55)) => x.ext.cell ((Blk.new wr 55 #[.string (nth L k).1, .slice (nth hs k).p (nth hs k).n (nth hs k).c]).cell 0)
      have x2 := fun x : ExtOf (wr.alloc (.cells #[.string (nth L k).1, .slice (nth hs k).p (nth hs k).n (nth hs k).c] 55)) => x.ext.cell ((Blk.new wr 55 #[.string (nth L k).1, .slice (nth hs k).p (nth hs k).n (nth hs k).c]).cell 1)
      have ho : okP n L k = (wordB (nth L k).1 && (decide (k = 0) || sLess (nth L (k - 1)).1 (nth L k).1) && riseP n (nth L k).2) := rfl
      cases hwb : wordB (nth L k).1 with
      | false =>
        have HF : Hid (checkP n L = false) := checkP_no hkL (by rw [ho, hwb]; rfl)
        rw [hwb] at HW
        clear ho hwb
        go_wp2
        refine wp_region_ext (by kernel_rfl) (by kernel_rfl) ?_
        repeat (go_big_quiet_step ((first | (go_at_call 23; exact Calls.ext_of (HW.out _)) | (go_at_call 24; exact Calls.ext_of (HR.out _)))))
        refine wpQuiet_nil ?_
        rintro w1 ⟨⟨_, hb1⟩, rfl⟩
        go_wp2
        go_ret
        exact ⟨ret_bool HF.out.symm, Ext.trans SH.out.ext (Ext.trans (Ext.alloc (Below.refl _ _) _) hb1)⟩
      | true =>
        rw [hwb] at HW
        by_cases h0 : k = 0
        · subst h0
          cases hrb : riseP n (nth L 0).2 with
          | false =>
            have HF : Hid (checkP n L = false) := checkP_no hkL (by rw [ho, hwb, hrb]; rfl)
            rw [hrb] at HR
            clear ho hwb hrb
            go_wp2
            refine wp_region_ext (by kernel_rfl) (by kernel_rfl) ?_
            repeat (go_big_quiet_step ((first | (go_at_call 23; exact Calls.ext_of (HW.out _)) | (go_at_call 24; exact Calls.ext_of (HR.out _)))))
            refine wpQuiet_nil ?_
            rintro w1 ⟨⟨_, hb1⟩, rfl⟩
            go_wp2
            go_ret
            exact ⟨ret_bool HF.out.symm, Ext.trans SH.out.ext (Ext.trans (Ext.alloc (Below.refl _ _) _) hb1)⟩
          | true =>
            have HF : Hid (okP n L 0 = true) := by unfold Hid; rw [ho, hwb, hrb]; rfl
            rw [hrb] at HR
            clear ho hwb hrb
            obtain ⟨k, hk0⟩ : ∃ k : Nat, k = 0 := ⟨0, rfl⟩
            go_wp2
            refine wp_region_ext (by kernel_rfl) (by kernel_rfl) ?_
            repeat (go_big_quiet_step ((first | (go_at_call 23; exact Calls.ext_of (HW.out _)) | (go_at_call 24; exact Calls.ext_of (HR.out _)))))
            refine wpQuiet_nil ?_
            rintro w1 ⟨⟨_, hb1⟩, rfl⟩
            go_wp2
            go_roundw
            case rel => exact ⟨1, by omega, by go_num, range_all_succ _ _ HA.out HF.out, (SH.out.junk _).call hb1⟩
            case measure => simp [intOf]; omega
        · have b3 : decide ((0:Int) < (k:Int)) = true := by simp; omega
          have b3n : decide (0 < k) = true := by simp; omega
          have d4 : (1:Int) ≤ (k:Int) := by omega
          have d5 : (k:Int) - 1 < m := by omega
          have d6 : (0:Int) ≤ (k:Int) - 1 := by omega
          have g3 := SH.out.ext.cell (HL.out.c1 (k - 1) (by omega))
          have x3 := fun x : ExtOf (wr.alloc (.cells #[.string (nth L k).1, .slice (nth hs k).p (nth hs k).n (nth hs k).c] 55)) => x.ext.cell ((Ext.alloc (Below.refl wr.heap.size wr) _).cell g3)
          have hk0 : decide (k = 0) = false := by simpa using h0
          cases hsb : sLess (nth L (k - 1)).1 (nth L k).1 with
          | false =>
            have HF : Hid (checkP n L = false) := checkP_no hkL (by rw [ho, hwb, hk0, hsb]; rfl)
            have b4 : Op.bytesLess (nth L (k - 1)).1.toList (nth L k).1.toList = false := hsb
            clear ho hwb hsb hk0
            go_wp2
            refine wp_region_ext (by kernel_rfl) (by kernel_rfl) ?_
            repeat (go_big_quiet_step ((first | (go_at_call 23; exact Calls.ext_of (HW.out _)) | (go_at_call 24; exact Calls.ext_of (HR.out _)))))
            refine wpQuiet_nil ?_
            rintro w1 ⟨⟨_, hb1⟩, rfl⟩
            go_wp2
            go_ret
            exact ⟨ret_bool HF.out.symm, Ext.trans SH.out.ext (Ext.trans (Ext.alloc (Below.refl _ _) _) hb1)⟩
          | true =>
            have b4 : Op.bytesLess (nth L (k - 1)).1.toList (nth L k).1.toList = true := hsb
            cases hrb : riseP n (nth L k).2 with
            | false =>
              have HF : Hid (checkP n L = false) := checkP_no hkL (by rw [ho, hwb, hk0, hsb, hrb]; rfl)
              rw [hrb] at HR
              clear ho hwb hsb hk0 hrb
              go_wp2
              refine wp_region_ext (by kernel_rfl) (by kernel_rfl) ?_
              repeat (go_big_quiet_step ((first | (go_at_call 23; exact Calls.ext_of (HW.out _)) | (go_at_call 24; exact Calls.ext_of (HR.out _)))))
              refine wpQuiet_nil ?_
              rintro w1 ⟨⟨_, hb1⟩, rfl⟩
              go_wp2
              go_ret
              exact ⟨ret_bool HF.out.symm, Ext.trans SH.out.ext (Ext.trans (Ext.alloc (Below.refl _ _) _) hb1)⟩
            | true =>
              have HF : Hid (okP n L k = true) := by unfold Hid; rw [ho, hwb, hk0, hsb, hrb]; rfl
              rw [hrb] at HR
              clear ho hwb hsb hk0 hrb
              go_wp2
              refine wp_region_ext (by kernel_rfl) (by kernel_rfl) ?_
              repeat (go_big_quiet_step ((first | (go_at_call 23; exact Calls.ext_of (HW.out _)) | (go_at_call 24; exact Calls.ext_of (HR.out _)))))
              refine wpQuiet_nil ?_
              rintro w1 ⟨⟨_, hb1⟩, rfl⟩
              go_wp2
              go_roundw
              case rel => exact ⟨k + 1, by omega, by go_num, range_all_succ _ _ HA.out HF.out, (SH.out.junk _).call hb1⟩
              case measure => simp [intOf]; omega
    · have HE := Lib.hid (checkP_end (by rw [← L1.out]; exact hlt) HA.out)
      have SH := Lib.hid S; clear S
      by_cases h1 : 1 ≤ n
      · have b1 : decide (1 ≤ n) = true := by simpa using h1
        go_wp2
        go_ret
        exact ⟨ret_bool (by rw [HE.out, b1]; rfl), SH.out.ext⟩
      · have b1 : decide (1 ≤ n) = false := by simpa using h1
        go_wp2
        go_ret
        exact ⟨ret_bool (by rw [HE.out, b1]; rfl), SH.out.ext⟩
end Go.Proofs.YtcjkechemjdboaaGreat
/- Postings: the same; too many; few words. -/
namespace Go.Proofs.YtcjkechemjdboaaGreat
open Go Go.RowKit Go.Maps
set_option maxRecDepth 100000 in
set_option maxHeartbeats 1000000 in
theorem Same05 (p q : Option Addr) (n m c d : Nat) (hs ht : List Hd) (L M : List Po) (w : World) (hL : RdP w p n hs L) (hM : RdP w q m ht M) :
    Calls Tryz.prog 20 #[.slice p n c, .slice q m d] w fun e w' => e = .returned (.bool (decide (L = M))) ∧ Ext w w' := by
  have p1 := hL.ptr
  have p2 := hM.ptr
  have n1 := hL.small
  have n2 := hM.small
  have L1 := Lib.hid hL.hn
  have L2 := Lib.hid hM.hn
  have HL := Lib.hid hL; clear hL
  have HM := Lib.hid hM; clear hM
  by_cases hnm : n = m
  · subst hnm
    have hl := Lib.hid (L1.out.symm.trans L2.out)
    go_enter Tryz.func20, Tryz.ntmps20
    go_wp2
    go_loopw [5] (fun i wr => ∃ k : Nat, k ≤ n ∧ i = .int .i64 k ∧ L.take k = M.take k ∧ Ext w wr) (fun i _ => n - (intOf i).toNat)
    case atStart => exact ⟨0, Nat.zero_le _, rfl, rfl, Below.refl _ _⟩
    case round =>
      obtain ⟨k, hk, rfl, he, hb⟩ := hrel
      have HE := Lib.hid he; clear he
      have HB := Lib.hid hb; clear hb
      by_cases hlt : k < n
      · have g1 := HB.out.cell (HL.out.c1 k hlt)
        have g2 := HB.out.cell (HL.out.c2 k hlt)
        have g3 := HB.out.cell (HM.out.c1 k hlt)
        have g4 := HB.out.cell (HM.out.c2 k hlt)
        have x1 := fun x : ExtOf wr => x.ext.cell g1
        have x2 := fun x : ExtOf wr => x.ext.cell g2
        have x3 := fun x : ExtOf wr => x.ext.cell g3
        have x4 := fun x : ExtOf wr => x.ext.cell g4
        have d1 : (0:Int) ≤ k := by omega
        have d2 : (k:Int) < n := by omega
        have HI := Lib.hid (fun x : ExtOf wr => Ints01 (nth hs k).p (nth ht k).p (nth hs k).n (nth ht k).n (nth hs k).c (nth ht k).c (nth L k).2 (nth M k).2 x.val (((HL.out.each k hlt).ext HB.out).ext x.ext) (((HM.out.each k hlt).ext HB.out).ext x.ext))
        have hb0 := Lib.hid (str_beq (nth L k).1 (nth M k).1)
        by_cases hw : (nth L k).1 = (nth M k).1
        · have hb1 : ((nth L k).1.toList == (nth M k).1.toList) = true := by rw [hb0.out]; simp [hw]
          by_cases hp : (nth L k).2 = (nth M k).2
          · rw [decide_eq_true hp] at HI
            have HN : Hid (nth L k = nth M k) := Prod.ext hw hp
            clear hw hp
            go_wp2
            refine wp_region_ext (by kernel_rfl) (by kernel_rfl) ?_
            repeat (go_big_quiet_step (((go_at_call 21; exact Calls.ext_of (HI.out _)))))
            refine wpQuiet_nil ?_
            rintro w1 ⟨⟨_, hb1⟩, rfl⟩
            go_wp2
            go_roundw
            case rel => exact ⟨k + 1, by omega, by go_num, eq_step hl.out (by rw [← L1.out]; exact hlt) HE.out HN.out, Ext.trans HB.out hb1⟩
            case measure => simp [intOf]; omega
          · rw [decide_eq_false hp] at HI
            have HN : Hid (nth L k ≠ nth M k) := fun h => hp (by rw [h])
            clear hw hp
            go_wp2
            refine wp_region_ext (by kernel_rfl) (by kernel_rfl) ?_
            repeat (go_big_quiet_step (((go_at_call 21; exact Calls.ext_of (HI.out _)))))
            refine wpQuiet_nil ?_
            rintro w1 ⟨⟨_, hb1⟩, rfl⟩
            go_wp2
            go_ret
            exact ⟨ret_bool (by rw [decide_eq_false (eq_no hl.out (by rw [← L1.out]; exact hlt) HN.out)]), Ext.trans HB.out hb1⟩
        · have hb1 : ((nth L k).1.toList == (nth M k).1.toList) = false := by rw [hb0.out]; simp [hw]
          have HN : Hid (nth L k ≠ nth M k) := fun h => hw (by rw [h])
          clear hw
          go_wp2
          refine wp_region_ext (by kernel_rfl) (by kernel_rfl) ?_
          repeat (go_big_quiet_step (((go_at_call 21; exact Calls.ext_of (HI.out _)))))
          refine wpQuiet_nil ?_
          rintro w1 ⟨⟨_, hb1⟩, rfl⟩
          go_wp2
          go_ret
          exact ⟨ret_bool (by rw [decide_eq_false (eq_no hl.out (by rw [← L1.out]; exact hlt) HN.out)]), Ext.trans HB.out hb1⟩
      · go_wp2
        go_ret
        exact ⟨ret_bool (by rw [decide_eq_true (eq_end hl.out (by rw [← L1.out]; exact hlt) HE.out)]), HB.out⟩
  · have h1 : ((n : Int) != (m : Int)) = true := by rw [bne_iff_ne]; omega
    have hne : L ≠ M := by rintro rfl; exact hnm (L1.out.trans L2.out.symm)
    have HN := Lib.hid hne; clear hne hnm
    go_enter Tryz.func20, Tryz.ntmps20
    go_wp2
    go_ret
    exact ⟨ret_bool (by rw [decide_eq_false HN.out]), Below.refl _ _⟩
def fewB (ws : List ByteArray) : Bool := ws.all (fun s => decide (s.size ≤ 60)) && decide (ws.length ≤ 12)
def badPo (p : Po) : Bool := decide (60 < p.1.size) || decide (60 < p.2.length)
def bigP (L : List Po) : Bool := (decide (L.length ≤ 40) && L.any badPo) || decide (40 < L.length)
end Go.Proofs.YtcjkechemjdboaaGreat
/- The document's example postings. -/
namespace Go.Proofs.YtcjkechemjdboaaGreat
open Go Go.RowKit
abbrev tA : ByteArray := ⟨#[97]⟩
abbrev tB : ByteArray := ⟨#[98]⟩
abbrev tC : ByteArray := ⟨#[99]⟩
theorem ab : sLess tA tB = true := by unfold sLess; rw [ByteArray.toList_eq, ByteArray.toList_eq]; rfl
theorem ba : sLess tB tA = false := by unfold sLess; rw [ByteArray.toList_eq, ByteArray.toList_eq]; rfl
theorem aa : sLess tA tA = false := sLess_irrefl _
theorem bb : sLess tB tB = false := sLess_irrefl _
theorem anb : tA ≠ tB := by decide
def wantL : List Po := [(tA, [0]), (tB, [0, 1])]
def exWW : List (List ByteArray) := [[tA, tB], [tB]]
theorem exS5 : putAll sLess exWW.flatten = [tA, tB] := by
  show putAll sLess [tA, tB, tB] = _
  unfold putAll
  rw [List.foldl_cons, List.foldl_cons, List.foldl_cons, List.foldl_nil, putL_nil]
  simp only [putL_cons, putL_nil, ab, ba, bb, aa, anb, anb.symm, if_true, if_false, Bool.false_eq_true, reduceIte]
theorem exMP : makeP exWW = wantL := by
  unfold makeP
  rw [exS5]
  rfl
theorem exC5 : checkB 2 [] exWW = true := by decide
theorem exI5 : isB 2 [] exWW = true := by
  unfold isB; rw [exC5]
  have h1 : riseB lessE [] = true := by decide
  have h2 : riseB sLess [tA, tB] = true := by simp [riseB, riseAt, nth, ab]
  have h3 : riseB sLess [tB] = true := by simp [riseB]
  rw [h1]; simp [exWW, h2, h3]
theorem exAl1 : allS wantL [tA, tB] = [0] := by decide
theorem exAn1 : anyS wantL [tA, tB] = [0, 1] := by decide
theorem exAl2 : allS wantL [tC] = [] := by decide
theorem exCk2 : checkP 2 wantL = true := by
  have h1 : wordB tA = true := by decide
  have h2 : wordB tB = true := by decide
  have h3 : riseP 2 [0] = true := by decide
  have h4 : riseP 2 [0, 1] = true := by decide
  simp [checkP, okP, wantL, nth, List.range_succ, h1, h2, h3, h4, ab]
theorem exCk1 : checkP 1 wantL = false := by
  have h4 : riseP 1 [0, 1] = false := by decide
  simp [checkP, okP, wantL, nth, List.range_succ, h4]
theorem exOk : PoOk wantL := by
  intro p hp
  simp [wantL] at hp
  rcases hp with rfl | rfl
  · exact ⟨by decide, fun x hx => by simp at hx; subst hx; exact I64.of (by omega) (by omega)⟩
  · refine ⟨by decide, fun x hx => ?_⟩
    simp at hx
    rcases hx with rfl | rfl <;> exact I64.of (by omega) (by omega)
theorem exSz : PoSz wantL := by
  intro p hp
  simp [wantL] at hp
  rcases hp with rfl | rfl <;> decide
/-- the example's rows where they lie -/
def hsWant (b : Nat) : List Hd := [⟨some ⟨b, 0, none⟩, 1, 1⟩, ⟨some ⟨b + 1, 0, none⟩, 2, 2⟩]
theorem rdWant {W : World} {b : Nat} {t1 t2 t3 : TypeId} (h1 : Blk W b t1 #[.int .i64 0]) (h2 : Blk W (b + 1) t2 #[.int .i64 0, .int .i64 1]) (h3 : Blk W (b + 1 + 1) t3 #[.string tA, .slice (some ⟨b, 0, none⟩) 1 1, .string tB, .slice (some ⟨b + 1, 0, none⟩) 2 2]) :
    RdP W (some ⟨b + 1 + 1, 0, none⟩) 2 (hsWant b) wantL := by
  have h := h3.rd (size := 2) (n := 2) (xs := [.string tA, .slice (some ⟨b, 0, none⟩) 1 1, .string tB, .slice (some ⟨b + 1, 0, none⟩) 2 2]) rfl rfl (by decide)
  refine ⟨rfl, h.ptr, h.small, fun k hk => ?_, fun k hk => ?_, fun k hk => ?_⟩
  · have : k = 0 ∨ k = 1 := by omega
    rcases this with rfl | rfl <;> exact h.cells _ (by omega)
  · have : k = 0 ∨ k = 1 := by omega
    rcases this with rfl | rfl <;> exact h.cells _ (by omega)
  · have : k = 0 ∨ k = 1 := by omega
    rcases this with rfl | rfl
    · exact h1.rd rfl rfl (by show (1:Nat) ≤ _; omega)
    · exact h2.rd rfl rfl (by show (2:Nat) ≤ _; omega)
theorem exMk (w : World) : Calls Tryz.prog 6 #[.agg #[.int .i64 2, .slice none 0 0, .slice (some ⟨w.heap.size + 1 + 1, 0, none⟩) 2 2]] (((w.alloc (.cells #[.string ⟨#[97]⟩, .string ⟨#[98]⟩] 9)).alloc (.cells #[.string ⟨#[98]⟩] 9)).alloc (.cells #[.slice (some ⟨w.heap.size, 0, none⟩) 2 2, .slice (some ⟨w.heap.size + 1, 0, none⟩) 1 1] 36)) fun e w' => ∃ q c hs', e = .returned (.tuple #[.slice q 2 c, .int .i64 0]) ∧ RdP w' q 2 hs' wantL ∧ Ext w w' := by
  obtain ⟨a1, a2, a3, a4⟩ := alloc3B w #[.string ⟨#[97]⟩, .string ⟨#[98]⟩] #[.string ⟨#[98]⟩] #[.slice (some ⟨w.heap.size, 0, none⟩) 2 2, .slice (some ⟨w.heap.size + 1, 0, none⟩) 1 1] 9 9 36
  generalize (((w.alloc (.cells #[.string ⟨#[97]⟩, .string ⟨#[98]⟩] 9)).alloc (.cells #[.string ⟨#[98]⟩] 9)).alloc (.cells #[.slice (some ⟨w.heap.size, 0, none⟩) 2 2, .slice (some ⟨w.heap.size + 1, 0, none⟩) 1 1] 36)) = W at *
  have hW : RdW W (some ⟨w.heap.size + 1 + 1, 0, none⟩) 2 [⟨some ⟨w.heap.size, 0, none⟩, 2, 2⟩, ⟨some ⟨w.heap.size + 1, 0, none⟩, 1, 1⟩] exWW := by
    refine ⟨rfl, a3.rd rfl rfl (by decide), fun j hj => ?_⟩
    have : j = 0 ∨ j = 1 := by omega
    rcases this with rfl | rfl
    · exact a1.rd rfl rfl (by show (2:Nat) ≤ _; omega)
    · exact a2.rd rfl rfl (by show (1:Nat) ≤ _; omega)
  have hz : SzW exWW := by
    intro l hl s hs
    simp [exWW] at hl
    rcases hl with rfl | rfl <;> simp at hs
    · rcases hs with rfl | rfl <;> decide
    · subst hs; decide
  refine (MakeG_yes 2 none 0 0 _ 2 2 [] _ exWW W (Rd.nil _ _ _) hW hz exI5).mono ?_
  rintro e w' ⟨q, n, c, hs', rfl, h1, h2⟩
  rw [exMP] at h1
  obtain rfl : n = 2 := h1.hn
  exact ⟨q, c, hs', rfl, h1, Ext.trans a4 h2⟩
theorem exWant (w : World) : RdP (((w.alloc (.cells #[.int .i64 0] 3)).alloc (.cells #[.int .i64 0, .int .i64 1] 3)).alloc (.cells #[.string ⟨#[97]⟩, .slice (some ⟨w.heap.size, 0, none⟩) 1 1, .string ⟨#[98]⟩, .slice (some ⟨w.heap.size + 1, 0, none⟩) 2 2] 55)) (some ⟨w.heap.size + 1 + 1, 0, none⟩) 2 (hsWant w.heap.size) wantL ∧ Ext w (((w.alloc (.cells #[.int .i64 0] 3)).alloc (.cells #[.int .i64 0, .int .i64 1] 3)).alloc (.cells #[.string ⟨#[97]⟩, .slice (some ⟨w.heap.size, 0, none⟩) 1 1, .string ⟨#[98]⟩, .slice (some ⟨w.heap.size + 1, 0, none⟩) 2 2] 55)) ∧ (((w.alloc (.cells #[.int .i64 0] 3)).alloc (.cells #[.int .i64 0, .int .i64 1] 3)).alloc (.cells #[.string ⟨#[97]⟩, .slice (some ⟨w.heap.size, 0, none⟩) 1 1, .string ⟨#[98]⟩, .slice (some ⟨w.heap.size + 1, 0, none⟩) 2 2] 55)).heap.size = w.heap.size + 1 + 1 + 1 := by
  obtain ⟨a1, a2, a3, a4⟩ := alloc3B w #[.int .i64 0] #[.int .i64 0, .int .i64 1] #[.string ⟨#[97]⟩, .slice (some ⟨w.heap.size, 0, none⟩) 1 1, .string ⟨#[98]⟩, .slice (some ⟨w.heap.size + 1, 0, none⟩) 2 2] 3 3 55
  exact ⟨rdWant a1 a2 a3, a4, by simp⟩
theorem exAllA (w : World) (p : Option Addr) (hs : List Hd) (h : RdP w p 2 hs wantL) : Calls Tryz.prog 18 #[.slice p 2 2, .slice (some ⟨w.heap.size, 0, none⟩) 2 2] (w.alloc (.cells #[.string ⟨#[97]⟩, .string ⟨#[98]⟩] 9)) fun e w' => ∃ q c, e = .returned (.tuple #[.slice q 1 c, .int .i64 0]) ∧ Rd w' 1 q 1 (encI [0]) ∧ Ext w w' := by
  have he : Ext w (w.alloc (.cells #[.string ⟨#[97]⟩, .string ⟨#[98]⟩] 9)) := Ext.alloc (Below.refl _ _) _
  refine (AllG p 2 2 hs wantL _ 2 2 [tA, tB] _ (h.ext he) exOk (Rd.new w 9 [.string ⟨#[97]⟩, .string ⟨#[98]⟩] 2 1 rfl (by decide)) (by decide) (by decide) (by decide)).mono ?_
  rintro e w' ⟨q, c, rfl, S⟩
  rw [exAl1] at S ⊢
  exact ⟨q, c, rfl, S.rd 0 rfl (by decide), Ext.trans he S.ext⟩
theorem exAnyA (w : World) (p : Option Addr) (hs : List Hd) (h : RdP w p 2 hs wantL) : Calls Tryz.prog 19 #[.slice p 2 2, .slice (some ⟨w.heap.size, 0, none⟩) 2 2] (w.alloc (.cells #[.string ⟨#[97]⟩, .string ⟨#[98]⟩] 9)) fun e w' => ∃ q c, e = .returned (.tuple #[.slice q 2 c, .int .i64 0]) ∧ Rd w' 1 q 2 (encI [0, 1]) ∧ Ext w w' := by
  have he : Ext w (w.alloc (.cells #[.string ⟨#[97]⟩, .string ⟨#[98]⟩] 9)) := Ext.alloc (Below.refl _ _) _
  refine (AnyG p 2 2 hs wantL _ 2 2 [tA, tB] _ (h.ext he) exOk (Rd.new w 9 [.string ⟨#[97]⟩, .string ⟨#[98]⟩] 2 1 rfl (by decide)) (by decide) (by decide) (by decide)).mono ?_
  rintro e w' ⟨q, c, rfl, S⟩
  rw [exAn1] at S ⊢
  exact ⟨q, c, rfl, S.rd 0 rfl (by decide), Ext.trans he S.ext⟩
theorem exAllC (w : World) (p : Option Addr) (hs : List Hd) (h : RdP w p 2 hs wantL) : Calls Tryz.prog 18 #[.slice p 2 2, .slice (some ⟨w.heap.size, 0, none⟩) 1 1] (w.alloc (.cells #[.string ⟨#[99]⟩] 9)) fun e w' => ∃ q c, e = .returned (.tuple #[.slice q 0 c, .int .i64 0]) ∧ Ext w w' := by
  have he : Ext w (w.alloc (.cells #[.string ⟨#[99]⟩] 9)) := Ext.alloc (Below.refl _ _) _
  refine (AllG p 2 2 hs wantL _ 1 1 [tC] _ (h.ext he) exOk (Rd.new w 9 [.string ⟨#[99]⟩] 1 1 rfl (by decide)) (by decide) (by decide) (by decide)).mono ?_
  rintro e w' ⟨q, c, rfl, S⟩
  rw [exAl2] at S ⊢
  exact ⟨q, c, rfl, Ext.trans he S.ext⟩
theorem exInts (w : World) (q : Option Addr) (n c : Nat) (l : List Int) (h : Rd w 1 q n (encI l)) (hn : n ≤ 100) : Calls Tryz.prog 21 #[.slice q n c, .slice (some ⟨w.heap.size, 0, none⟩) n n] (w.alloc (.cells (encI l).toArray 3)) fun e w' => e = .returned (.bool true) ∧ Ext w w' := by
  have he : Ext w (w.alloc (.cells (encI l).toArray 3)) := Ext.alloc (Below.refl _ _) _
  refine (Ints01 q _ n n c n l l _ (h.ext he) (Rd.new w 3 (encI l) n 1 h.len (by omega))).mono ?_
  rintro e w' ⟨rfl, h1⟩
  exact ⟨by simp, Ext.trans he h1⟩
theorem exInts0 (w : World) (q : Option Addr) (c : Nat) (h : Rd w 1 q 1 (encI [0])) : Calls Tryz.prog 21 #[.slice q 1 c, .slice (some ⟨w.heap.size, 0, none⟩) 1 1] (w.alloc (.cells #[.int .i64 0] 3)) fun e w' => e = .returned (.bool true) ∧ Ext w w' := exInts w q 1 c [0] h (by decide)
theorem exInts01 (w : World) (q : Option Addr) (c : Nat) (h : Rd w 1 q 2 (encI [0, 1])) : Calls Tryz.prog 21 #[.slice q 2 c, .slice (some ⟨w.heap.size, 0, none⟩) 2 2] (w.alloc (.cells #[.int .i64 0, .int .i64 1] 3)) fun e w' => e = .returned (.bool true) ∧ Ext w w' := exInts w q 2 c [0, 1] h (by decide)
theorem exAllW (w : World) : Calls Tryz.prog 18 #[.slice (some ⟨w.heap.size + 1 + 1, 0, none⟩) 2 2, .slice (some ⟨w.heap.size + 1 + 1 + 1, 0, none⟩) 2 2] ((((w.alloc (.cells #[.int .i64 0] 3)).alloc (.cells #[.int .i64 0, .int .i64 1] 3)).alloc (.cells #[.string ⟨#[97]⟩, .slice (some ⟨w.heap.size, 0, none⟩) 1 1, .string ⟨#[98]⟩, .slice (some ⟨w.heap.size + 1, 0, none⟩) 2 2] 55)).alloc (.cells #[.string ⟨#[97]⟩, .string ⟨#[98]⟩] 9)) fun e w' => ∃ q c, e = .returned (.tuple #[.slice q 1 c, .int .i64 0]) ∧ Rd w' 1 q 1 (encI [0]) ∧ RdP w' (some ⟨w.heap.size + 1 + 1, 0, none⟩) 2 (hsWant w.heap.size) wantL ∧ Ext w w' := by
  obtain ⟨h1, h2, h3⟩ := exWant w
  generalize (((w.alloc (.cells #[.int .i64 0] 3)).alloc (.cells #[.int .i64 0, .int .i64 1] 3)).alloc (.cells #[.string ⟨#[97]⟩, .slice (some ⟨w.heap.size, 0, none⟩) 1 1, .string ⟨#[98]⟩, .slice (some ⟨w.heap.size + 1, 0, none⟩) 2 2] 55)) = X at *
  rw [← h3]
  exact (exAllA X _ _ h1).mono fun e w' ⟨q, c, e1, e2, e3⟩ => ⟨q, c, e1, e2, h1.ext e3, Ext.trans h2 e3⟩
set_option maxRecDepth 100000 in
set_option maxHeartbeats 4000000 in
theorem Posted (w : World) : Calls Tryz.prog 7 #[] w fun e w' => e = .returned (.bool true) ∧ Ext w w' := by
  go_enter Tryz.func7, Tryz.ntmps7
  go_wp2_with (first
    | (go_at_call 10; have _t := K9; go_must (have hck := CheckP _ 2 2 _ wantL 1 _ (K9.out.get 2 rfl) exSz; rw [exCk1] at hck; refine hck.mono ?_; rintro e w10 ⟨rfl, hb⟩; have B10 := Lib.hid (Ext.trans B9.out hb); clear hb hck))
    | (go_at_call 10; have _t := K8; go_must (have hck := CheckP _ 2 2 _ wantL 2 _ (K8.out.get 2 rfl) exSz; rw [exCk2] at hck; refine hck.mono ?_; rintro e w9 ⟨rfl, hb⟩; have B9 := Lib.hid (Ext.trans B8.out hb); have K9 := Lib.hid (K8.out.ext hb); clear hb hck))
    | (go_at_call 21; have _t := K7; go_must (refine (exInts01 _ _ _ (K7.out.get 0 rfl)).mono ?_; rintro e w8 ⟨rfl, hb⟩; have B8 := Lib.hid (Ext.trans B7.out hb); have K8 := Lib.hid (K7.out.ext hb); clear hb))
    | (go_at_call 21; have _t := K6; go_must (refine (exInts0 _ _ _ (K6.out.get 1 rfl)).mono ?_; rintro e w7 ⟨rfl, hb⟩; have B7 := Lib.hid (Ext.trans B6.out hb); have K7 := Lib.hid (K6.out.ext hb); clear hb))
    | (go_at_call 20; go_must (refine (Same05 _ _ 2 2 _ _ _ _ wantL wantL _ (K5.out.get 3 rfl) (K5.out.get 2 rfl)).mono ?_; rintro e w6 ⟨rfl, hb⟩; have B6 := Lib.hid (Ext.trans B5.out hb); have K6 := Lib.hid (K5.out.ext hb); clear hb))
    | (go_at_call 18; have _t := K4; go_must (refine (AllGn _ _ _ _ _ _).mono ?_; rintro e w5 ⟨rfl, hb⟩; have B5 := Lib.hid (Ext.trans B4.out hb); have K5 := Lib.hid (K4.out.ext hb); clear hb))
    | (go_at_call 18; have _t := K3; go_must (refine (exAllC _ _ _ (K3.out.get 2 rfl)).mono ?_; rintro e w4 ⟨qc, cc, rfl, hb⟩; have B4 := Lib.hid (Ext.trans B3.out hb); have K4 := Lib.hid (K3.out.ext hb); clear hb))
    | (go_at_call 19; go_must (refine (exAnyA _ _ _ (K2.out.get 1 rfl)).mono ?_; rintro e w3 ⟨qb, cb, rfl, hr, hb⟩; have B3 := Lib.hid (Ext.trans B2.out hb); have K3 := Lib.hid ((K2.out.ext hb).add (fun w => Rd w 1 qb 2 (encI [0, 1])) (fun _ he => hr.ext he)); clear hb hr))
    | (go_at_call 18; go_must (refine (exAllW _).mono ?_; rintro e w2 ⟨qa, ca, rfl, hr, hw, hb⟩; have B2 := Lib.hid (Ext.trans B1.out hb); have K2 := Lib.hid (((K1.out.ext hb).add (fun w => RdP w (some ⟨w1.heap.size + 1 + 1, 0, none⟩) 2 (hsWant w1.heap.size) wantL) (fun _ he => hw.ext he)).add (fun w => Rd w 1 qa 1 (encI [0])) (fun _ he => hr.ext he)); clear hb hr hw))
    | (go_at_call 6; go_must (refine (exMk _).mono ?_; rintro e w1 ⟨q, c, hs', rfl, hr, hb⟩; have B1 := Lib.hid hb; have K1 := Lib.hid ((Kn.nil w1).add (fun w => RdP w q 2 hs' wantL) (fun _ he => hr.ext he)); clear hb hr)))
  go_ret
  exact ⟨rfl, B10.out⟩
end Go.Proofs.YtcjkechemjdboaaGreat
namespace Go.Proofs.YtcjkechemjdboaaGreat
open Go Go.RowKit
/-- what the reference makes: a graph that is read, in memory from a block on -/
def GraphN (w : World) (base : Nat) (v : Value) (N : Int) (E : List (Int × Int)) (W : List (List ByteArray)) : Prop :=
  ∃ pe ne ce pw nw cw hs, v = .agg #[.int .i64 N, .slice pe ne ce, .slice pw nw cw] ∧ Rd w 2 pe ne (encE E) ∧ ne ≤ ce ∧ RdW w pw nw hs W ∧ nw ≤ cw ∧
    (0 < ne → base ≤ (adr pe 0).block) ∧ (0 < nw → base ≤ (adr pw 0).block) ∧ (∀ j, j < nw → 0 < (nth hs j).n → base ≤ (adr (nth hs j).p 0).block)
theorem GraphN.toR {w : World} {base : Nat} {v : Value} {N : Int} {E : List (Int × Int)} {W : List (List ByteArray)} (h : GraphN w base v N E W) : GraphR w v N E W := by
  obtain ⟨pe, ne, ce, pw, nw, cw, hs, h1, h2, h3, h4, h5, _⟩ := h
  exact ⟨pe, ne, ce, pw, nw, cw, hs, h1, h2, h3, h4, h5⟩
theorem GraphN.set {w : World} {base : Nat} {v : Value} {N : Int} {E : List (Int × Int)} {W : List (List ByteArray)} (h : GraphN w base v N E W) {b : Nat} (hb : b < base) (i : Nat) (u : Value) : GraphN (w.setCell ⟨b, i, none⟩ u) base v N E W := by
  obtain ⟨pe, ne, ce, pw, nw, cw, hs, h1, h2, h3, h4, h5, f1, f2, f3⟩ := h
  exact ⟨pe, ne, ce, pw, nw, cw, hs, h1, h2.set_ (fun h => by have := f1 h; omega) i u, h3, ⟨h4.hn, h4.row.set_ (fun h => by have := f2 h; omega) i u, fun j hj => (h4.each j hj).set_ (fun h => by have := f3 j hj h; omega) i u⟩, h5, f1, f2, f3⟩
theorem GraphN.mono {w : World} {base b : Nat} {v : Value} {N : Int} {E : List (Int × Int)} {W : List (List ByteArray)} (h : GraphN w base v N E W) (hb : b ≤ base) : GraphN w b v N E W := by
  obtain ⟨pe, ne, ce, pw, nw, cw, hs, h1, h2, h3, h4, h5, f1, f2, f3⟩ := h
  exact ⟨pe, ne, ce, pw, nw, cw, hs, h1, h2, h3, h4, h5, fun h => Nat.le_trans hb (f1 h), fun h => Nat.le_trans hb (f2 h), fun j hj h => Nat.le_trans hb (f3 j hj h)⟩
theorem GraphN.nil (w : World) (base : Nat) : GraphN w base (.agg #[.int .i64 0, .slice none 0 0, .slice none 0 0]) 0 [] [] :=
  ⟨none, 0, 0, none, 0, 0, [], rfl, Rd.nil _ _ _, Nat.le_refl _, ⟨rfl, Rd.nil _ _ _, fun j hj => by omega⟩, Nat.le_refl _, fun h => by omega, fun h => by omega, fun j hj => by omega⟩
end Go.Proofs.YtcjkechemjdboaaGreat
namespace Go.Proofs.YtcjkechemjdboaaGreat
open Go Go.RowKit
theorem bigB_bad {E : List (Int × Int)} {W : List (List ByteArray)} {k : Nat} (h : W.length ≤ 250) (hk : k < W.length) (hb : badRow (nth W k) = true) : true = bigB E W := by
  unfold bigB; rw [any_true_at badRow W k hk hb]; simp [h]
theorem bigB_ok {E : List (Int × Int)} {W : List (List ByteArray)} {k : Nat} (hk : ¬ k < W.length) (ha : (W.take k).any badRow = false) : bigB E W = (decide (250 < W.length) || (decide (60 < E.length) && decide (E.length ≤ 2000)) || decide (2100 < E.length)) := by
  unfold bigB; rw [any_end badRow W k hk ha]; simp
set_option maxHeartbeats 1000000 in
theorem Big02 (N : Int) (pe : Option Addr) (ne ce : Nat) (pw : Option Addr) (nw cw : Nat) (E : List (Int × Int)) (hs : List Hd) (W : List (List ByteArray)) (w : World) (hE : Rd w 2 pe ne (encE E)) (hW : RdW w pw nw hs W) :
    Calls Tryz.prog 4 #[.agg #[.int .i64 N, .slice pe ne ce, .slice pw nw cw]] w fun e w' => e = .returned (.bool (bigB E W)) ∧ Ext w w' := by
  have p2 := hW.row.ptr
  have n1 := hE.small
  have n2 := hW.row.small
  have l1 := hE.nE
  have l2 := hW.nW
  have HE := Lib.hid hE; clear hE
  have HW := Lib.hid hW; clear hW
  have L1 := Lib.hid l1; clear l1
  have L2 := Lib.hid l2; clear l2
  by_cases h250 : nw ≤ 250
  · have d250 : decide ((nw : Int) ≤ 250) = true := by simp; omega
    go_enter Tryz.func4, Tryz.ntmps4
    go_wp2
    go_loopw [3, 4] (fun i _ wr => ∃ k : Nat, k ≤ nw ∧ i = .int .i64 k ∧ (W.take k).any badRow = false ∧ Ext w wr ∧ GBox wr w.heap.size N pe ne ce pw nw cw) (fun i _ _ => nw - (intOf i).toNat)
    case atStart => exact ⟨0, Nat.zero_le _, rfl, rfl, (Below.refl _ _).alloc (Nat.le_refl _) _, GBox.new _ _⟩
    case round =>
      obtain ⟨k, hk, rfl, ha, hb, gb1⟩ := hrel
      have HA := Lib.hid ha; clear ha
      have HB := Lib.hid hb; clear hb
      have G1 := Lib.hid gb1
      obtain ⟨b0, b1, b2⟩ := gb1
      by_cases hlt : k < nw
      · have g1 := HB.out.cell (HW.out.row.cH hlt)
        have q1 := (HW.out.each k hlt).ext HB.out
        have p3 := q1.ptr
        have n3 := q1.small
        have l3 := q1.nS
        have Q1 := Lib.hid q1; clear q1
        have L3 := Lib.hid l3; clear l3
        by_cases h20 : (nth hs k).n ≤ 20
        · have d20 : decide (((nth hs k).n : Int) ≤ 20) = true := by simp; omega
          go_wp2
          obtain ⟨wo, rfl⟩ : ∃ wo : World, wo = wr := ⟨_, rfl⟩
          go_loopw [4] (fun i wx => ∃ j : Nat, j ≤ (nth hs k).n ∧ i = .int .i64 j ∧ ((nth W k).take j).any longB = false ∧ Ext wo wx) (fun i _ => (nth hs k).n - (intOf i).toNat)
          case atStart => exact ⟨0, Nat.zero_le _, rfl, rfl, Below.refl _ _⟩
          case round =>
            obtain ⟨j, hj, rfl, hja, hb⟩ := hrel
            have HJ := Lib.hid hja; clear hja
            replace b0 := hb.cell b0
            replace b1 := hb.cell b1
            replace b2 := hb.cell b2
            replace g1 := hb.cell g1
            replace G1 := Lib.hid (G1.out.ext hb)
            replace HB := Lib.hid (Ext.trans HB.out hb)
            replace Q1 := Lib.hid (Q1.out.ext hb)
            have HX := Lib.hid hb; clear hb
            by_cases hjt : j < (nth hs k).n
            · have g3 := Q1.out.cS hjt
              by_cases h50 : 50 < (nth (nth W k) j).size
              · go_wp2
                go_ret
                exact ⟨ret_bool (bigB_bad (by rw [← L2.out]; exact h250) (by rw [← L2.out]; exact hlt) (by unfold badRow; rw [any_true_at longB (nth W k) j (by rw [← L3.out]; exact hjt) (by simp [longB, h50])]; simp)), HB.out⟩
              · go_wp2
                go_roundw
                case rel => exact ⟨j + 1, by omega, by go_num, any_step longB _ _ (by rw [← L3.out]; exact hjt) HJ.out (by simp [longB]; omega), HX.out⟩
                case measure => simp [intOf]; omega
            · have HR := Lib.hid (any_end longB (nth W k) j (by rw [← L3.out]; exact hjt) HJ.out)
              go_wp2
              go_roundw
              case rel => exact ⟨k + 1, by omega, by go_num, any_step badRow _ _ (by rw [← L2.out]; exact hlt) HA.out (by unfold badRow; rw [HR.out, ← L3.out]; simp; omega), HB.out, G1.out⟩
              case measure => simp [intOf]; omega
        · have d20 : decide (((nth hs k).n : Int) ≤ 20) = false := by simp; omega
          have g20 : 20 < (nth hs k).n := by omega
          have HR := Lib.hid (bigB_bad (E := E) (by rw [← L2.out]; exact h250) (by rw [← L2.out]; exact hlt) (by unfold badRow; rw [← L3.out]; simp [g20]))
          go_wp2
          refine wp_loop_rounds 1 ?_
          rw [rounds_succ]
          go_wp2
          go_ret
          exact ⟨ret_bool HR.out, HB.out⟩
      · have HF := Lib.hid (bigB_ok (E := E) (by rw [← L2.out]; exact hlt) HA.out)
        by_cases c1 : 60 < ne
        · by_cases c2 : ne ≤ 2000
          · go_wp2
            go_ret
            exact ⟨ret_bool (by rw [HF.out, ← L1.out, ← L2.out]; simp [c1, c2]), HB.out⟩
          · go_wp2
            go_ret
            exact ⟨ret_bool (by rw [HF.out, ← L1.out, ← L2.out, Bool.eq_iff_iff]; simp; omega), HB.out⟩
        · go_wp2
          go_ret
          exact ⟨ret_bool (by rw [HF.out, ← L1.out, ← L2.out, Bool.eq_iff_iff]; simp; omega), HB.out⟩
  · have d250 : decide ((nw : Int) ≤ 250) = false := by simp; omega
    have g250 : 250 < nw := by omega
    have HF : Hid (bigB E W = true) := by unfold Hid bigB; rw [← L2.out]; simp [g250]
    by_cases h0 : 0 < nw
    · go_enter Tryz.func4, Tryz.ntmps4
      go_wp2
      refine wp_loop_rounds 1 ?_
      rw [rounds_succ]
      go_wp2
      go_ret
      exact ⟨ret_bool HF.out.symm, (Below.refl _ _).alloc (Nat.le_refl _) _⟩
    · omega
end Go.Proofs.YtcjkechemjdboaaGreat
/- The law PostingMakes: a graph has just these postings, or is refused. -/
namespace Go.Proofs.YtcjkechemjdboaaGreat
open Go Go.RowKit
def mkP (N : Int) (E : List (Int × Int)) (W : List (List ByteArray)) : List Po := if isB N E W = true then makeP W else []
def mkC (N : Int) (E : List (Int × Int)) (W : List (List ByteArray)) : Int := if isB N E W = true then 0 else 20
theorem RdP.nil (w : World) : RdP w none 0 [] [] := ⟨rfl, .inl rfl, by omega, fun k hk => by omega, fun k hk => by omega, fun k hk => by omega⟩
theorem MakeGb (N : Int) (pe : Option Addr) (ne ce : Nat) (pw : Option Addr) (nw cw : Nat) (E : List (Int × Int)) (hs : List Hd) (W : List (List ByteArray)) (w : World) (hE : Rd w 2 pe ne (encE E)) (hW : RdW w pw nw hs W) (hz : SzW W) :
    Calls Tryz.prog 6 #[.agg #[.int .i64 N, .slice pe ne ce, .slice pw nw cw]] w fun e w' => ∃ q n c hs', e = .returned (.tuple #[.slice q n c, .int .i64 (mkC N E W)]) ∧ RdP w' q n hs' (mkP N E W) ∧ Ext w w' := by
  refine (MakeG N pe ne ce pw nw cw E hs W w hE hW hz).mono ?_
  rintro e w' ⟨⟨h, rfl⟩ | ⟨h, q, n, c, hs', rfl, hr⟩, he⟩
  · unfold mkC mkP; rw [h]; exact ⟨none, 0, 0, [], rfl, RdP.nil _, he⟩
  · unfold mkC mkP; rw [h]; exact ⟨q, n, c, hs', rfl, hr, he⟩
end Go.Proofs.YtcjkechemjdboaaGreat
/- The program's Normal by the plain law; Degrees. -/
namespace Go.Proofs.YtcjkechemjdboaaGreat
open Go Go.RowKit Go.Shelf Go.Lib Go.Sort
theorem NormalG (N : Int) (pe : Option Addr) (ne ce : Nat) (pw : Option Addr) (nw cw : Nat) (E : List (Int × Int)) (hs : List Hd) (W : List (List ByteArray)) (w : World) (hE : Rd w 2 pe ne (encE E)) (hW : RdW w pw nw hs W) (hz : SzW W) :
    Calls Tryz.prog 5 #[.agg #[.int .i64 N, .slice pe ne ce, .slice pw nw cw]] w fun e w' => ∃ v, e = .returned (.tuple #[v, .int .i64 (normC N E W)]) ∧ GraphO w' w.heap.size v (normN N E W) (normE N E W) (normW N E W) ∧ Ext w w' := by
  refine (NormalG0 N pe ne ce pw nw cw E hs W w hE hW hz).mono ?_
  rintro e w' ⟨v, h1, h2, h3⟩
  refine ⟨v, h1, ?_, h3⟩
  unfold normN normE normW
  rw [← once_putAll stoE, show (putAll sLess : List ByteArray → _) = fun l => dedup (sortBy sLess l) from funext fun l => (once_putAll stoS l).symm]
  exact h2
theorem own_far {w : World} {base : Nat} {e : TypeId} {size n c : Nat} {q : Option Addr} {xs : List Value} (h : w.ownsRow base e size (.slice q n c) n xs) {b : Nat} (hb : b < base) (i : Nat) (u : Value) : (w.setCell ⟨b, i, none⟩ u).ownsRow base e size (.slice q n c) n xs := by
  refine ⟨h.1, ?_⟩
  rcases h.2 with h2 | ⟨g, cap, cur, h1, hg, hh, r⟩
  · exact .inl h2
  · exact .inr ⟨g, cap, cur, h1, hg, (Below.heap_setCell w ⟨b, i, none⟩ u g (by show g ≠ b; omega)).trans hh, r⟩
theorem GraphO.set {w : World} {base : Nat} {v : Value} {N : Int} {E : List (Int × Int)} {W : List (List ByteArray)} (h : GraphO w base v N E W) {b : Nat} (hb : b < base) (i : Nat) (u : Value) : GraphO (w.setCell ⟨b, i, none⟩ u) base v N E W := by
  obtain ⟨pe, ce, pw, cw, hs, h1, h2, h3⟩ := h
  exact ⟨pe, ce, pw, cw, hs, h1, own_far h2 hb i u, h3.hn, own_far h3.row hb i u, fun j hj => own_far (h3.each j hj) hb i u⟩
theorem GraphO.mono {w : World} {base b : Nat} {v : Value} {N : Int} {E : List (Int × Int)} {W : List (List ByteArray)} (h : GraphO w base v N E W) (hb : b ≤ base) : GraphO w b v N E W := by
  obtain ⟨pe, ce, pw, cw, hs, h1, h2, h3⟩ := h
  exact ⟨pe, ce, pw, cw, hs, h1, own_base h2 hb, h3.hn, own_base h3.row hb, fun j hj => own_base (h3.each j hj) hb⟩
/-- the counts of an edge list's places -/
def outN (E : List (Int × Int)) (v : Int) : Nat := E.countP fun x => x.1 == v
def inN (E : List (Int × Int)) (v : Int) : Nat := E.countP fun x => x.2 == v
def placeB (N : Int) (E : List (Int × Int)) (W : List (List ByteArray)) (v : Int) : Bool := checkB N E W && decide (0 ≤ v ∧ v < N)
def degO (N : Int) (E : List (Int × Int)) (W : List (List ByteArray)) (v : Int) : Int := if placeB N E W v then outN (putAll lessE E) v else 0
def degI (N : Int) (E : List (Int × Int)) (W : List (List ByteArray)) (v : Int) : Int := if placeB N E W v then inN (putAll lessE E) v else 0
theorem outN_step {E : List (Int × Int)} {v : Int} {k : Nat} (hk : k < E.length) : outN (E.take (k + 1)) v = outN (E.take k) v + if (nth E k).1 == v then 1 else 0 := by
  unfold outN; rw [take_succ_nth E k hk, List.countP_append, List.countP_singleton]
theorem inN_step {E : List (Int × Int)} {v : Int} {k : Nat} (hk : k < E.length) : inN (E.take (k + 1)) v = inN (E.take k) v + if (nth E k).2 == v then 1 else 0 := by
  unfold inN; rw [take_succ_nth E k hk, List.countP_append, List.countP_singleton]
theorem outN_le (E : List (Int × Int)) (v : Int) : outN E v ≤ E.length := List.countP_le_length
theorem inN_le (E : List (Int × Int)) (v : Int) : inN E v ≤ E.length := List.countP_le_length
end Go.Proofs.YtcjkechemjdboaaGreat
/- What All, Any and Both say, whatever the order of words; what is not looked at bounds what is. No program in sight. -/
namespace Go.Proofs.YtcjkechemjdboaaGreat
open Go Go.RowKit
theorem nth0_mem {α : Type} [Inhabited α] {ws : List α} (h : 0 < ws.length) : nth ws 0 ∈ ws := by rw [nth_eq h]; exact List.getElem_mem _
theorem allS_rises (L : List Po) (ws : List ByteArray) : Rises ltI (allS L ws) := putAll_rises stoI _
theorem anyS_rises (L : List Po) (ws : List ByteArray) : Rises ltI (anyS L ws) := putAll_rises stoI _
theorem bothS_rises (a b : List Int) : Rises ltI (bothS a b) := putAll_rises stoI _
theorem allS_iff {L : List Po} {ws : List ByteArray} {x : Int} (h : 0 < ws.length) : x ∈ allS L ws ↔ ∀ u ∈ ws, x ∈ findL L u := by
  unfold allS
  rw [putAll_mem stoI, List.mem_filter, List.all_eq_true]
  constructor
  · rintro ⟨_, h2⟩ u hu; simpa using h2 u hu
  · intro h2; exact ⟨h2 _ (nth0_mem h), fun u hu => by simpa using h2 u hu⟩
theorem anyS_iff {L : List Po} {ws : List ByteArray} {x : Int} : x ∈ anyS L ws ↔ ∃ u ∈ ws, x ∈ findL L u := by
  unfold anyS; rw [putAll_mem stoI, List.mem_flatMap]
theorem bothS_iff {a b : List Int} {x : Int} : x ∈ bothS a b ↔ x ∈ a ∧ x ∈ b := by
  unfold bothS; rw [putAll_mem stoI, List.mem_filter, inB_iff]
theorem allS_same {L : List Po} {ws vs : List ByteArray} (h : 0 < ws.length) (k : 0 < vs.length) (hm : ∀ u, u ∈ ws ↔ u ∈ vs) : allS L ws = allS L vs :=
  rises_uniq stoI _ _ (allS_rises _ _) (allS_rises _ _) fun x => by rw [allS_iff h, allS_iff k]; simp only [hm]
theorem anyS_same {L : List Po} {ws vs : List ByteArray} (hm : ∀ u, u ∈ ws ↔ u ∈ vs) : anyS L ws = anyS L vs :=
  rises_uniq stoI _ _ (anyS_rises _ _) (anyS_rises _ _) fun x => by rw [anyS_iff, anyS_iff]; simp only [hm]
theorem bothS_comm (a b : List Int) : bothS a b = bothS b a :=
  rises_uniq stoI _ _ (bothS_rises _ _) (bothS_rises _ _) fun x => by rw [bothS_iff, bothS_iff, and_comm]
theorem bothS_self {l : List Int} (h : Rises ltI l) : bothS l l = l :=
  rises_uniq stoI _ _ (bothS_rises _ _) h fun x => by rw [bothS_iff, and_self]
theorem rises_nth {l : List Int} (h : Rises ltI l) {k : Nat} (hk : k + 1 < l.length) : nth l k < nth l (k + 1) := by
  rw [nth_eq (by omega), nth_eq hk]
  have := List.pairwise_iff_getElem.1 h k (k + 1) (by omega) hk (by omega)
  simpa [ltI] using this
theorem bothS_len (a b : List Int) : (bothS a b).length ≤ a.length := Nat.le_trans (putAll_len _ _) (List.length_filter_le _ _)
theorem allS_len {L : List Po} (hok : PoOk L) (ws : List ByteArray) : (allS L ws).length ≤ 1000 := by
  rw [← allK_end (Nat.le_refl _)]; exact allK_len hok ws _
theorem anyS_len {L : List Po} (hok : PoOk L) (ws : List ByteArray) : (anyS L ws).length ≤ 1000 * ws.length := Nat.le_trans (putAll_len _ _) (flat_len hok ws)
theorem bigP_facts {L : List Po} (h : bigP L = false) : L.length ≤ 40 ∧ ∀ p ∈ L, p.1.size ≤ 60 ∧ p.2.length ≤ 60 := by
  unfold bigP at h
  rw [Bool.or_eq_false_iff, Bool.and_eq_false_iff] at h
  have h1 : L.length ≤ 40 := by simpa using h.2
  refine ⟨h1, fun p hp => ?_⟩
  have h2 : L.any badPo = false := by
    rcases h.1 with h3 | h3
    · simp at h3; omega
    · exact h3
  have := List.any_eq_false.1 h2 p hp
  unfold badPo at this
  simp at this
  exact this
theorem few_facts {ws : List ByteArray} (h : fewB ws = true) : ws.length ≤ 12 ∧ ∀ s ∈ ws, s.size ≤ 60 := by
  unfold fewB at h
  rw [Bool.and_eq_true, List.all_eq_true] at h
  exact ⟨by simpa using h.2, fun s hs => by simpa using h.1 s hs⟩
theorem poOk_of {L : List Po} (h : bigP L = false) (hI : ∀ q ∈ L, ∀ x ∈ q.2, I64 x) : PoOk L := fun p hp => ⟨by have := ((bigP_facts h).2 p hp).2; omega, hI p hp⟩
theorem poSz_of {L : List Po} (h : bigP L = false) : PoSz L := fun p hp => by have := ((bigP_facts h).2 p hp).1; omega
/-- the words turned round, the first one once more -/
theorem back_mem {ws : List ByteArray} (h : 0 < ws.length) (u : ByteArray) : u ∈ ws ↔ u ∈ ws.reverse ++ [nth ws 0] := by
  rw [List.mem_append, List.mem_reverse, List.mem_singleton]
  exact ⟨.inl, fun h1 => h1.elim id fun e => e ▸ nth0_mem h⟩
theorem more_all {L : List Po} {ws : List ByteArray} {u : ByteArray} (h : 0 < ws.length) {x : Int} (hx : x ∈ allS L (ws ++ [u])) : x ∈ allS L ws := by
  rw [allS_iff (by simp)] at hx
  rw [allS_iff h]
  exact fun v hv => hx v (List.mem_append_left _ hv)
theorem more_any {L : List Po} {ws : List ByteArray} {u : ByteArray} {x : Int} (hx : x ∈ anyS L ws) : x ∈ anyS L (ws ++ [u]) := by
  rw [anyS_iff] at hx ⊢
  obtain ⟨v, hv, h⟩ := hx
  exact ⟨v, List.mem_append_left _ hv, h⟩
theorem all_any {L : List Po} {ws : List ByteArray} (h : 0 < ws.length) {x : Int} (hx : x ∈ allS L ws) : x ∈ anyS L ws := by
  rw [allS_iff h] at hx
  rw [anyS_iff]
  exact ⟨_, nth0_mem h, hx _ (nth0_mem h)⟩
theorem nth_mem {α : Type} [Inhabited α] {l : List α} {k : Nat} (h : k < l.length) : nth l k ∈ l := by rw [nth_eq h]; exact List.getElem_mem _
theorem inB_true {l : List Int} {x : Int} (h : x ∈ l) : inB l x = true := (inB_iff l x).2 h
theorem inB_both {a b : List Int} {x : Int} (h : x ∈ a) : inB b x = inB (bothS a b) x := by
  rw [Bool.eq_iff_iff, inB_iff, inB_iff, bothS_iff]; exact ⟨fun k => ⟨h, k⟩, fun k => k.2⟩
theorem take_succ_rev {α : Type} [Inhabited α] (l : List α) {k : Nat} (h : k < l.length) : l.reverse.take (k + 1) = l.reverse.take k ++ [nth l (l.length - 1 - k)] := by
  rw [take_succ_nth _ k (by simpa using h)]
  congr 2
  rw [nth_eq (by simpa using h), nth_eq (by omega), List.getElem_reverse]
theorem IntsT (p q : Option Addr) (n m c d : Nat) (A : List Int) (w : World) (h1 : Rd w 1 p n (encI A)) (h2 : Rd w 1 q m (encI A)) : Calls Tryz.prog 21 #[.slice p n c, .slice q m d] w fun e w' => e = .returned (.bool true) ∧ Ext w w' :=
  (Ints01 p q n m c d A A w h1 h2).mono fun e w' ⟨h3, h4⟩ => ⟨by rw [h3]; simp, h4⟩
end Go.Proofs.YtcjkechemjdboaaGreat
/- The reference's Turned and Degrees. -/
namespace Go.Proofs.YtcjkechemjdboaaGreat
open Go Go.RowKit
def swapE (x : Int × Int) : Int × Int := (x.2, x.1)
theorem encE_snoc (l : List (Int × Int)) (x : Int × Int) : encE (l ++ [x]) = encE l ++ encE [x] := by simp [encE]
end Go.Proofs.YtcjkechemjdboaaGreat
/- Plain laws of chapter 2: what is normal is normal again; turned twice. -/
namespace Go.Proofs.YtcjkechemjdboaaGreat
open Go Go.RowKit
theorem rise_iff {α : Type} [Inhabited α] {lt : α → α → Bool} (h : STO lt) (l : List α) : riseB lt l = true ↔ Rises lt l := by
  constructor
  · intro hr
    unfold riseB at hr
    rw [List.all_eq_true] at hr
    have step : ∀ i, i + 1 < l.length → lt (nth l i) (nth l (i + 1)) = true := fun i hi => hr i (List.mem_range.2 (by omega))
    have key : ∀ d i, i + d + 1 < l.length → lt (nth l i) (nth l (i + d + 1)) = true := by
      intro d
      induction d with
      | zero => intro i hi; exact step i hi
      | succ d ih => intro i hi; exact h.trans _ _ _ (ih i (by omega)) (step (i + d + 1) (by omega))
    unfold Rises
    rw [List.pairwise_iff_getElem]
    intro i j hi hj hij
    have := key (j - i - 1) i (by omega)
    rw [show i + (j - i - 1) + 1 = j from by omega, nth_eq hi, nth_eq hj] at this
    exact this
  · intro hr
    unfold riseB
    rw [List.all_eq_true]
    intro i hi
    have hi2 := List.mem_range.1 hi
    unfold Rises at hr
    rw [List.pairwise_iff_getElem] at hr
    unfold riseAt
    rw [nth_eq (by omega), nth_eq (by omega)]
    exact hr i (i + 1) (by omega) (by omega) (by omega)
theorem putAll_eq_iff {α : Type} [DecidableEq α] {lt : α → α → Bool} (h : STO lt) (l : List α) : putAll lt l = l ↔ Rises lt l := by
  constructor
  · intro e; rw [← e]; exact putAll_rises h l
  · intro hr; exact rises_uniq h _ _ (putAll_rises h l) hr fun x => putAll_mem h l x
theorem putAll_idem {α : Type} [DecidableEq α] {lt : α → α → Bool} (h : STO lt) (l : List α) : putAll lt (putAll lt l) = putAll lt l := (putAll_eq_iff h _).2 (putAll_rises h l)
theorem riseB_putAll {α : Type} [DecidableEq α] [Inhabited α] {lt : α → α → Bool} (h : STO lt) (l : List α) : riseB lt (putAll lt l) = true := (rise_iff h _).2 (putAll_rises h l)
theorem edgeOk_swap (N : Int) (x : Int × Int) : edgeOk N (swapE x) = edgeOk N x := by
  unfold edgeOk swapE
  rw [Bool.eq_iff_iff]; simp; omega
theorem rowOk_putAll {l : List ByteArray} (h : rowOk l = true) : rowOk (putAll sLess l) = true := by
  unfold rowOk at h ⊢
  simp only [Bool.and_eq_true, List.all_eq_true, decide_eq_true_eq] at h ⊢
  exact ⟨fun x hx => h.1 x ((putAll_mem stoS l x).1 hx), Nat.le_trans (putAll_len sLess l) h.2⟩
theorem rowsOk_map {W : List (List ByteArray)} (h : W.all rowOk = true) : (W.map (putAll sLess)).all rowOk = true := by
  rw [List.all_eq_true] at h ⊢
  intro l hl
  obtain ⟨l', hl', rfl⟩ := List.mem_map.1 hl
  exact rowOk_putAll (h l' hl')
/-- a normal graph's check -/
theorem check_norm {N : Int} {E F : List (Int × Int)} {W : List (List ByteArray)} (h : checkB N E W = true) (hl : F.length ≤ 2000) (hF : ∀ x ∈ F, edgeOk N x = true) : checkB N F (W.map (putAll sLess)) = true := by
  obtain ⟨h1, h2, h3, h4, h5, h6⟩ := checkB_parts h
  exact checkB_yes h1 h2 hl (by rw [List.length_map]; exact h4) (List.all_eq_true.2 hF) (rowsOk_map h6)
theorem check_swap {N : Int} {E : List (Int × Int)} {W : List (List ByteArray)} : checkB N (E.map swapE) W = checkB N E W := by
  have : (E.map swapE).all (edgeOk N) = E.all (edgeOk N) := by
    rw [Bool.eq_iff_iff, List.all_eq_true, List.all_eq_true]
    constructor
    · intro h x hx; rw [← edgeOk_swap]; exact h _ (List.mem_map_of_mem hx)
    · intro h x hx; obtain ⟨y, hy, rfl⟩ := List.mem_map.1 hx; rw [edgeOk_swap]; exact h y hy
  unfold checkB
  rw [this, List.length_map]
theorem swapE_swapE (x : Int × Int) : swapE (swapE x) = x := rfl
theorem map_putAll_idem (W : List (List ByteArray)) : (W.map (putAll sLess)).map (putAll sLess) = W.map (putAll sLess) := by
  rw [List.map_map]
  exact List.map_congr_left fun l _ => putAll_idem stoS l
/-- turned twice -/
theorem putAll_turn2 (E : List (Int × Int)) : putAll lessE ((putAll lessE (E.map swapE)).map swapE) = putAll lessE E := by
  refine rises_uniq stoE _ _ (putAll_rises stoE _) (putAll_rises stoE _) fun x => ?_
  rw [putAll_mem stoE, putAll_mem stoE]
  constructor
  · intro h
    obtain ⟨y, hy, rfl⟩ := List.mem_map.1 h
    rw [putAll_mem stoE] at hy
    obtain ⟨z, hz, rfl⟩ := List.mem_map.1 hy
    exact hz
  · intro h
    exact List.mem_map.2 ⟨swapE x, (putAll_mem stoE _ _).2 (List.mem_map_of_mem h), rfl⟩
theorem is_norm {N : Int} {E F : List (Int × Int)} {W : List (List ByteArray)} (h : checkB N E W = true) (hl : F.length ≤ 2000) (hF : ∀ x ∈ F, edgeOk N x = true) (hr : riseB lessE F = true) : isB N F (W.map (putAll sLess)) = true := by
  unfold isB
  rw [check_norm h hl hF, hr]
  simp only [Bool.and_self, Bool.true_and, List.all_eq_true]
  intro l hl
  obtain ⟨l', _, rfl⟩ := List.mem_map.1 hl
  exact riseB_putAll stoS l'
/-- a graph is normal just if it is the one that Normal makes -/
theorem is_same {N : Int} {E : List (Int × Int)} {W : List (List ByteArray)} (h : checkB N E W = true) : isB N E W = sameB N (putAll lessE E) (W.map (putAll sLess)) N E W := by
  unfold isB sameB
  rw [h, Bool.true_and, Bool.eq_iff_iff, Bool.and_eq_true, decide_eq_true_eq, rise_iff stoE, putAll_eq_iff stoE]
  simp only [true_and]
  refine and_congr_right fun _ => ?_
  rw [List.all_eq_true]
  constructor
  · intro hr
    conv => rhs; rw [← List.map_id W]
    exact List.map_congr_left fun l hl => (putAll_eq_iff stoS l).2 ((rise_iff stoS l).1 (hr l hl))
  · intro e l hl
    rw [rise_iff stoS, ← putAll_eq_iff stoS]
    have h2 : ∀ l ∈ W, putAll sLess l = id l := List.map_inj_left.1 (e.trans (List.map_id W).symm)
    exact h2 l hl
theorem szW_map {W : List (List ByteArray)} (h : SzW W) : SzW (W.map (putAll sLess)) := by
  intro l hl s hs
  obtain ⟨l', hl', rfl⟩ := List.mem_map.1 hl
  exact h l' hl' s ((putAll_mem stoS l' s).1 hs)
/-- all that the law GraphTwice asks of a graph that may be -/
structure TwiceF (N : Int) (E : List (Int × Int)) (W : List (List ByteArray)) (A C : List (Int × Int)) (V : List (List ByteArray)) : Prop where
  n1 : normN N E W = N ∧ normE N E W = A ∧ normW N E W = V ∧ normC N E W = 0
  n2 : normN N A V = N ∧ normE N A V = A ∧ normW N A V = V ∧ normC N A V = 0
  n3 : normN N (E.map swapE) W = N ∧ normE N (E.map swapE) W = C ∧ normW N (E.map swapE) W = V ∧ normC N (E.map swapE) W = 0
  n4 : normN N (C.map swapE) V = N ∧ normE N (C.map swapE) V = A ∧ normW N (C.map swapE) V = V ∧ normC N (C.map swapE) V = 0
  i1 : isB N A V = true
  i2 : isB N C V = true
  i3 : isB N E W = sameB N A V N E W
  lA : A.length ≤ 2000
  lC : C.length ≤ 2000
  lV : V.length ≤ 200
  lV2 : ∀ l ∈ V, l.length ≤ 8
theorem norm_of {N : Int} {E A : List (Int × Int)} {W V : List (List ByteArray)} (hc : checkB N E W = true) (hA : putAll lessE E = A) (hV : W.map (putAll sLess) = V) : normN N E W = N ∧ normE N E W = A ∧ normW N E W = V ∧ normC N E W = 0 := by
  unfold normN normE normW normC
  rw [hc, hA, hV]
  exact ⟨rfl, rfl, rfl, rfl⟩
theorem twice_facts {N : Int} {E : List (Int × Int)} {W : List (List ByteArray)} (hc : checkB N E W = true) : TwiceF N E W (putAll lessE E) (putAll lessE (E.map swapE)) (W.map (putAll sLess)) := by
  obtain ⟨h1, h2, h3, h4, h5, h6⟩ := checkB_parts hc
  have hA : ∀ x ∈ putAll lessE E, edgeOk N x = true := fun x hx => List.all_eq_true.1 h5 x ((putAll_mem stoE E x).1 hx)
  have lA : (putAll lessE E).length ≤ 2000 := Nat.le_trans (putAll_len lessE E) h3
  have hcs : checkB N (E.map swapE) W = true := by rw [check_swap]; exact hc
  have hC : ∀ x ∈ putAll lessE (E.map swapE), edgeOk N x = true := fun x hx => List.all_eq_true.1 (checkB_parts hcs).2.2.2.2.1 x ((putAll_mem stoE _ x).1 hx)
  have lC : (putAll lessE (E.map swapE)).length ≤ 2000 := Nat.le_trans (putAll_len lessE _) (by rw [List.length_map]; exact h3)
  refine ⟨norm_of hc rfl rfl, norm_of (check_norm hc lA hA) (putAll_idem stoE _) (map_putAll_idem W), norm_of hcs rfl rfl, norm_of (by rw [check_swap]; exact check_norm hc lC hC) (putAll_turn2 E) (map_putAll_idem W), is_norm hc lA hA (riseB_putAll stoE _), is_norm hc lC hC (riseB_putAll stoE _), is_same hc, lA, lC, by rw [List.length_map]; omega, ?_⟩
  intro l hl
  obtain ⟨l', hl', rfl⟩ := List.mem_map.1 hl
  exact Nat.le_trans (putAll_len sLess l') (rowOk_len h6 l' hl')
end Go.Proofs.YtcjkechemjdboaaGreat
/- What is found in what Make makes: a place is found by a word just if it has it; what is made is right. No program in sight. -/
namespace Go.Proofs.YtcjkechemjdboaaGreat
open Go Go.RowKit
open Classical in
theorem findL_map (f : ByteArray → List Int) (u : ByteArray) : ∀ l : List ByteArray, findL (l.map fun s => (s, f s)) u = if u ∈ l then f u else []
  | [] => by simp [findL]
  | a :: l => by
    rw [List.map_cons, findL, findL_map f u l]
    by_cases h : a = u
    · subst h; simp
    · rw [if_neg h]
      by_cases h2 : u ∈ l
      · rw [if_pos h2, if_pos (List.mem_cons_of_mem _ h2)]
      · rw [if_neg h2, if_neg (fun h3 => (List.mem_cons.1 h3).elim (fun e => h e.symm) h2)]
theorem findL_make (W : List (List ByteArray)) (u : ByteArray) : findL (makeP W) u = plc (occK W W.length) u := by
  unfold makeP
  rw [findL_map]
  split
  · rfl
  · rename_i h
    rw [putAll_mem stoS] at h
    rw [plc_nil.2 fun x hx e => h (occK_mem.1 ⟨x, hx, e⟩)]
theorem mem_plc {O : List Occ} {s : ByteArray} {x : Int} : x ∈ plc O s ↔ (x, s) ∈ O := by
  unfold plc
  simp only [List.mem_map, List.mem_filter, decide_eq_true_eq]
  constructor
  · rintro ⟨⟨a, b⟩, ⟨h1, h2⟩, h3⟩; simp at h2 h3; subst h2 h3; exact h1
  · intro h; exact ⟨(x, s), ⟨h, rfl⟩, rfl⟩
theorem mem_occ {W : List (List ByteArray)} {v n : Nat} {s : ByteArray} : ((v : Int), s) ∈ occK W n ↔ v < n ∧ s ∈ nth W v := by
  unfold occK occR
  simp only [List.mem_flatMap, List.mem_range, List.mem_map, Prod.mk.injEq]
  constructor
  · rintro ⟨a, h1, t, h2, h3, h4⟩
    have : a = v := by omega
    subst this h4; exact ⟨h1, h2⟩
  · rintro ⟨h1, h2⟩; exact ⟨v, h1, s, h2, rfl, rfl⟩
theorem occ_nat {W : List (List ByteArray)} {n : Nat} {x : Occ} (h : x ∈ occK W n) : ∃ v : Nat, v < n ∧ x.1 = v := by
  unfold occK occR at h
  simp only [List.mem_flatMap, List.mem_range, List.mem_map] at h
  obtain ⟨a, h1, t, h2, h3⟩ := h
  exact ⟨a, h1, by rw [← h3]⟩
theorem in_make {W : List (List ByteArray)} {s : ByteArray} {v : Nat} (h : v < W.length) : inB (findL (makeP W) s) v = (nth W v).any fun t => decide (t = s) := by
  rw [Bool.eq_iff_iff, inB_iff, findL_make, mem_plc, mem_occ, List.any_eq_true]
  simp [h]
theorem plc_append (O Q : List Occ) (s : ByteArray) : plc (O ++ Q) s = plc O s ++ plc Q s := by simp [plc]
open Classical in
theorem plc_row {l : List ByteArray} (h : l.Nodup) (v : Nat) (s : ByteArray) : plc (occR v l) s = if s ∈ l then [(v : Int)] else [] := by
  induction l with
  | nil => simp [occR, plc]
  | cons a l ih =>
    obtain ⟨h1, h2⟩ := List.nodup_cons.1 h
    have e : plc (occR v (a :: l)) s = if a = s then (v : Int) :: plc (occR v l) s else plc (occR v l) s := by
      unfold plc occR
      by_cases h3 : a = s <;> simp [h3]
    rw [e, ih h2]
    by_cases h3 : a = s
    · subst h3; simp [h1]
    · rw [if_neg h3]
      by_cases h4 : s ∈ l
      · rw [if_pos h4, if_pos (List.mem_cons_of_mem _ h4)]
      · rw [if_neg h4, if_neg (fun h5 => (List.mem_cons.1 h5).elim (fun e => h3 e.symm) h4)]
theorem plc_rises {W : List (List ByteArray)} (h : ∀ l ∈ W, l.Nodup) (s : ByteArray) : ∀ k, k ≤ W.length → Rises ltI (plc (occK W k) s)
  | 0, _ => by simp [occK, plc, Rises]
  | k + 1, hk => by
    rw [occK_step, plc_append, plc_row (h _ (nth_mem (by omega)))]
    have ih := plc_rises h s k (by omega)
    refine List.pairwise_append.2 ⟨ih, ?_, ?_⟩
    · split <;> simp
    · intro a ha b hb
      split at hb
      · rw [List.mem_singleton] at hb; subst hb
        obtain ⟨v, hv, e⟩ := occ_nat (mem_plc.1 ha)
        simp at e; subst e
        simp [ltI]; exact hv
      · cases hb
theorem rises_nodup {W : List ByteArray} (h : Rises sLess W) : W.Nodup :=
  List.Pairwise.imp (fun {a b} hab e => by subst e; rw [sLess_irrefl] at hab; cases hab) h
theorem riseP_of {l : List Int} {n : Int} (h0 : 0 < l.length) (hr : Rises ltI l) (hb : ∀ x ∈ l, 0 ≤ x ∧ x < n) : riseP n l = true := by
  unfold riseP
  rw [decide_eq_true h0, Bool.true_and, List.all_eq_true]
  intro i hi
  rw [List.mem_range] at hi
  obtain ⟨h1, h2⟩ := hb _ (nth_mem hi)
  unfold okAt
  rw [decide_eq_true h1, decide_eq_true h2]
  rcases Nat.eq_zero_or_pos i with h3 | h3
  · simp [h3]
  · have := rises_nth hr (k := i - 1) (by omega)
    rw [show i - 1 + 1 = i by omega] at this
    simp [this]
theorem check_make {N : Int} {E : List (Int × Int)} {W : List (List ByteArray)} (h : isB N E W = true) : checkP N (makeP W) = true := by
  unfold isB at h
  rw [Bool.and_eq_true, Bool.and_eq_true] at h
  obtain ⟨⟨hc, _⟩, hw⟩ := h
  obtain ⟨h1, h2, h3, h4, h5, h6⟩ := checkB_parts hc
  have hnd : ∀ l ∈ W, l.Nodup := fun l hl => rises_nodup ((rise_iff stoS l).1 (List.all_eq_true.1 hw l hl))
  have hlen : (makeP W).length = (putAll sLess W.flatten).length := by unfold makeP; rw [List.length_map]
  have hn : ∀ i, i < (makeP W).length → nth (makeP W) i = (nth (putAll sLess W.flatten) i, plc (occK W W.length) (nth (putAll sLess W.flatten) i)) := fun i hi => by
    rw [nth_eq hi, nth_eq (l := putAll sLess W.flatten) (by omega)]
    simp only [makeP, List.getElem_map]
  unfold checkP
  rw [decide_eq_true h1, decide_eq_true h2, Bool.true_and, Bool.true_and, List.all_eq_true]
  intro i hi
  rw [List.mem_range] at hi
  have hm : nth (putAll sLess W.flatten) i ∈ W.flatten := (putAll_mem stoS _ _).1 (nth_mem (by omega))
  have hword : wordB (nth (putAll sLess W.flatten) i) = true := by
    obtain ⟨l, hl, hs⟩ := List.mem_flatten.1 hm
    have := List.all_eq_true.1 h6 l hl
    unfold rowOk at this
    rw [Bool.and_eq_true] at this
    exact List.all_eq_true.1 this.1 _ hs
  unfold okP
  rw [hn i hi, hword]
  have hr : riseP N (plc (occK W W.length) (nth (putAll sLess W.flatten) i)) = true := by
    refine riseP_of ?_ (plc_rises hnd _ _ (Nat.le_refl _)) fun x hx => ?_
    · obtain ⟨x, hx, e⟩ := occK_mem.2 hm
      exact List.length_pos_of_mem (mem_plc.2 (show (x.1, _) ∈ _ by rw [← e]; exact hx))
    · obtain ⟨v, hv, e⟩ := occ_nat (mem_plc.1 hx)
      simp at e; subst e
      omega
  rw [hr]
  rcases Nat.eq_zero_or_pos i with h7 | h7
  · simp [h7]
  · rw [hn (i - 1) (by omega)]
    have hlt : sLess (nth (putAll sLess W.flatten) (i - 1)) (nth (putAll sLess W.flatten) i) = true := by
      rw [nth_eq (by omega), nth_eq (by omega)]
      exact List.pairwise_iff_getElem.1 (putAll_rises stoS W.flatten) (i - 1) i (by omega) (by omega) (by omega)
    simp [hlt]
theorem plc_len_k {W : List (List ByteArray)} (h : ∀ l ∈ W, l.Nodup) (s : ByteArray) : ∀ k, k ≤ W.length → (plc (occK W k) s).length ≤ k
  | 0, _ => by simp [occK, plc]
  | k + 1, hk => by
    rw [occK_step, plc_append, plc_row (h _ (nth_mem (by omega))), List.length_append]
    have ih := plc_len_k h s k (by omega)
    split <;> simp <;> omega
theorem is_nodup {N : Int} {E : List (Int × Int)} {W : List (List ByteArray)} (h : isB N E W = true) : (∀ l ∈ W, l.Nodup) ∧ W.length ≤ 200 ∧ 1 ≤ N ∧ (W.length : Int) = N := by
  unfold isB at h
  rw [Bool.and_eq_true, Bool.and_eq_true] at h
  obtain ⟨⟨hc, _⟩, hw⟩ := h
  obtain ⟨h1, h2, h3, h4, h5, h6⟩ := checkB_parts hc
  exact ⟨fun l hl => rises_nodup ((rise_iff stoS l).1 (List.all_eq_true.1 hw l hl)), by omega, h1, h4⟩
theorem make_ok {W : List (List ByteArray)} (h : ∀ l ∈ W, l.Nodup) (hw : W.length ≤ 200) : PoOk (makeP W) := by
  intro p hp
  unfold makeP at hp
  obtain ⟨s, _, rfl⟩ := List.mem_map.1 hp
  refine ⟨?_, fun x hx => ?_⟩
  · show (plc _ s).length ≤ 1000
    have := plc_len_k h s W.length (Nat.le_refl _); omega
  · obtain ⟨v, hv, e⟩ := occ_nat (mem_plc.1 hx)
    simp at e; subst e
    exact I64.nat (by omega)
end Go.Proofs.YtcjkechemjdboaaGreat
/- The law PostingFinds: what is made is right; a place is found by a word just if it has it. -/
namespace Go.Proofs.YtcjkechemjdboaaGreat
open Go Go.RowKit
theorem any_take_succ {α : Type} [Inhabited α] (f : α → Bool) (l : List α) (k : Nat) (h : k < l.length) : (l.take (k + 1)).any f = ((l.take k).any f || f (nth l k)) := by
  rw [take_succ_nth l k h, List.any_append]; simp
set_option maxRecDepth 100000 in
set_option maxHeartbeats 8000000 in
theorem lawFinds (N : Int) (pe : Option Addr) (ne ce : Nat) (pw : Option Addr) (nw cw : Nat) (E : List (Int × Int)) (hs : List Hd) (W : List (List ByteArray)) (s : ByteArray) (w : World) (hE : Rd w 2 pe ne (encE E)) (hW : RdW w pw nw hs W) : Calls Tryz.prog 3 #[.agg #[.int .i64 N, .slice pe ne ce, .slice pw nw cw], .string s] w fun e w' => e = .returned (.bool true) ∧ Ext w w' := by
  have HBig := Lib.hid (fun W1 (h : Ext w W1) => Big02 N pe ne ce pw nw cw E hs W W1 (hE.ext h) (hW.ext h))
  have S0 := Lib.hid ((Sep.start w).al #[.int .i64 N, .slice pe ne ce, .slice pw nw cw] 25 w.heap.size rfl)
  have K0 := Lib.hid (Kn.nil w)
  by_cases hbig : bigB E W = true
  · rw [hbig] at HBig
    clear hE hW
    go_enter Tryz.func3, Tryz.ntmps3
    go_wp2_with (go_at_call 4; go_must (refine (HBig.out _ S0.out.ext).mono ?_; rintro e w1 ⟨rfl, hb1⟩; have S1 := Lib.hid (S0.out.call hb1); have K1 := Lib.hid (K0.out.ext (Ext.trans (Ext.alloc (Below.refl _ _) _) hb1)); have xz := (S1.out.blk 0 rfl).lt; have x0 := (S1.out.blk 0 rfl).cell 0; have x1 := (S1.out.blk 0 rfl).cell 1; have x2 := (S1.out.blk 0 rfl).cell 2; clear hb1))
    go_ret
    exact ⟨rfl, S1.out.ext⟩
  · have hbig' : bigB E W = false := by simpa using hbig
    have hz := szW_of_big hbig'
    rw [hbig'] at HBig
    clear hbig hbig'
    by_cases hsz : 60 < s.size
    · have d1 : decide ((60:Int) < s.size) = true := by simp; omega
      clear hE hW hz
      go_enter Tryz.func3, Tryz.ntmps3
      go_wp2_with (go_at_call 4; go_must (refine (HBig.out _ S0.out.ext).mono ?_; rintro e w1 ⟨rfl, hb1⟩; have S1 := Lib.hid (S0.out.call hb1); have K1 := Lib.hid (K0.out.ext (Ext.trans (Ext.alloc (Below.refl _ _) _) hb1)); have xz := (S1.out.blk 0 rfl).lt; have x0 := (S1.out.blk 0 rfl).cell 0; have x1 := (S1.out.blk 0 rfl).cell 1; have x2 := (S1.out.blk 0 rfl).cell 2; clear hb1))
      go_ret
      exact ⟨rfl, S1.out.ext⟩
    · have d1 : decide ((60:Int) < s.size) = false := by simp; omega
      by_cases hc : checkB N E W = true
      · have F := twice_facts hc
        have hzV := szW_map hz
        have HN := Lib.hid (fun W1 (h : Ext w W1) => NormalG N pe ne ce pw nw cw E hs W W1 (hE.ext h) (hW.ext h) hz)
        generalize hV : W.map (putAll sLess) = V at *
        generalize putAll lessE E = A at *
        generalize putAll lessE (E.map swapE) = C at *
        obtain ⟨⟨a1, a2, a3, a4⟩, _, _, _, i1, _, _, lA, _, lV, lV2⟩ := F
        rw [a1, a2, a3, a4] at HN
        have LV2 := Lib.hid lV2
        obtain ⟨f1, f2, f3, f4⟩ := is_nodup i1
        have HOK := Lib.hid (make_ok f1 f2)
        have HCK := Lib.hid (check_make i1)
        have HIN := Lib.hid (fun v (h : v < V.length) => in_make (s := s) h)
        have HM := Lib.hid (fun q m c qh mh ch ha W1 (h1 : Rd W1 2 q m (encE A)) (h2 : RdW W1 qh mh ha V) => MakeGb N q m c qh mh ch A ha V W1 h1 h2 hzV)
        have hmp : mkP N A V = makeP V := by unfold mkP; rw [i1]; rfl
        have hmc : mkC N A V = 0 := by unfold mkC; rw [i1]; rfl
        rw [hmp, hmc] at HM
        have HSZ : Hid (PoSz (makeP V)) := by
          intro p hp
          unfold makeP at hp
          obtain ⟨u, hu, rfl⟩ := List.mem_map.1 hp
          obtain ⟨l, hl, hs⟩ := List.mem_flatten.1 ((putAll_mem stoS _ _).1 hu)
          exact hzV l hl u hs
        have HPL := Lib.hid (findL_ok HOK.out s).1
        generalize makeP V = M at *
        have f4' := Lib.hid f4
        clear hE hW hz hzV a1 a2 a3 a4 i1 lV2 hc hV f1 hmp hmc f4
        go_enter Tryz.func3, Tryz.ntmps3
        go_wp2_with (first
          | (go_at_call 8; have _t := S3; go_must (refine (FindG qm nm cm hm M s _ (K3.out.get 0 rfl) HOK.out).mono ?_; rintro e w4 ⟨q4, c4, rfl, T⟩; have S4 := Lib.hid (S3.out.comp T); have K4 := Lib.hid (K3.out.ext T.ext); have oz := (S4.out.blk 1 rfl).lt; have o0 := (S4.out.blk 1 rfl).cell 0; have o1 := (S4.out.blk 1 rfl).cell 1; have o2 := (S4.out.blk 1 rfl).cell 2; clear T))
          | (go_at_call 6; have _t := S2; go_must (refine (HM.out q2 _ k2 r2 _ m2 h2 _ ((K2.out.get 1 rfl).ext (Ext.alloc (Below.refl _ _) _)) ((K2.out.get 0 rfl).ext (Ext.alloc (Below.refl _ _) _))).mono ?_; rintro e w3 ⟨qm, nm, cm, hm, rfl, hr, hb⟩; have S3 := Lib.hid ((S2.out.al #[.int .i64 N, .slice q2 A.length k2, .slice r2 V.length m2] 25 w2.heap.size rfl).call hb); have K3 := Lib.hid (((K2.out.ext (Ext.trans (Ext.alloc (Below.refl _ _) _) hb))).add (fun w => RdP w qm nm hm M) (fun _ he => hr.ext he)); have gz := (S3.out.blk 0 rfl).lt; have g0 := (S3.out.blk 0 rfl).cell 0; have g1 := (S3.out.blk 0 rfl).cell 1; have g2 := (S3.out.blk 0 rfl).cell 2; clear hb hr))
          | (go_at_call 5; have _t := S1; go_must (refine (HN.out _ S1.out.ext).mono ?_; rintro e w2 ⟨va, rfl, ⟨q2, k2, r2, m2, h2, rfl, oe, ow⟩, hb⟩; have S2 := Lib.hid (S1.out.call hb); have K2 := Lib.hid (((K1.out.ext hb).add (fun w => Rd w 2 q2 A.length (encE A)) (fun _ he => (Rd.of_own oe (by omega)).ext he)).add (fun w => RdW w r2 V.length h2 V) (fun _ he => (ow.rd (by omega) (fun l hl => Nat.le_trans (LV2.out l hl) (by omega))).ext he)); clear hb oe ow))
          | (go_at_call 4; go_must (refine (HBig.out _ S0.out.ext).mono ?_; rintro e w1 ⟨rfl, hb1⟩; have S1 := Lib.hid (S0.out.call hb1); have K1 := Lib.hid (K0.out.ext (Ext.trans (Ext.alloc (Below.refl _ _) _) hb1)); have xz := (S1.out.blk 0 rfl).lt; have x0 := (S1.out.blk 0 rfl).cell 0; have x1 := (S1.out.blk 0 rfl).cell 1; have x2 := (S1.out.blk 0 rfl).cell 2; clear hb1)))
        have RV := Lib.hid (K4.out.get 1 rfl : RdW w4 r2 V.length h2 V)
        have RL := Lib.hid (S4.out.rd 0 rfl (by have := HPL.out; omega) : Rd w4 1 q4 (findL M s).length (encI (findL M s)))
        have RM := Lib.hid (K4.out.get 0 rfl : RdP w4 qm nm hm M)
        have pV := RV.out.row.ptr
        go_loop [10, 11, 12] (fun v _ _ => ∃ k : Nat, k ≤ V.length ∧ v = .int .i64 k) (fun v _ _ => V.length - (intOf v).toNat)
        case atStart => exact ⟨0, Nat.zero_le _, rfl⟩
        case round =>
          obtain ⟨k, hk, rfl⟩ := hrel
          by_cases hlt : k < V.length
          · have d2 : (0:Int) ≤ k := by omega
            have d3 : (k:Int) < N := by have := f4'.out; omega
            have d4 : (k:Int) < V.length := by omega
            have g1 := RV.out.row.cH hlt
            have RK := Lib.hid (RV.out.each k hlt)
            have pK := RK.out.ptr
            have sK := RK.out.small
            have lK := Lib.hid RK.out.nS
            have hin := HIN.out k hlt
            have HI := Lib.hid (fun W1 (h : Ext w4 W1) => In05 q4 _ c4 (findL M s) (k:Int) W1 (RL.out.ext h))
            rw [hin] at HI
            clear hin
            go_wp2
            go_loop [11, 12] (fun b i => ∃ j : Nat, j ≤ (nth h2 k).n ∧ i = .int .i64 j ∧ b = .bool (((nth V k).take j).any fun t => decide (t = s))) (fun _ i => (nth h2 k).n - (intOf i).toNat)
            case atStart => exact ⟨0, Nat.zero_le _, rfl, rfl⟩
            case round =>
              obtain ⟨j, hj, rfl, rfl⟩ := hrel
              by_cases hlj : j < (nth h2 k).n
              · have d5 : (0:Int) ≤ j := by omega
                have d6 : (j:Int) < (nth h2 k).n := by omega
                have g2 := RK.out.cS hlj
                have hst := Lib.hid (any_take_succ (fun t => decide (t = s)) (nth V k) j (by rw [← lK.out]; exact hlj))
                have hb0 := Lib.hid (str_beq (nth (nth V k) j) s)
                cases hq : ((nth V k).take j).any fun t => decide (t = s) with
                | true =>
                  rw [hq] at hst
                  go_wp2
                  go_round
                  case rel => exact ⟨j + 1, by omega, by go_num, by rw [hst.out]; rfl⟩
                  case measure => simp [intOf]; omega
                | false =>
                  rw [hq] at hst
                  by_cases he : nth (nth V k) j = s
                  · have hq2 : ((nth (nth V k) j).toList == s.toList) = true := by rw [hb0.out]; simp [he]
                    have HT : Hid (((nth V k).take (j + 1)).any (fun t => decide (t = s)) = true) := by unfold Hid; rw [hst.out]; simp [he]
                    clear he
                    go_wp2
                    go_round
                    case rel => exact ⟨j + 1, by omega, by go_num, by rw [HT.out]⟩
                    case measure => simp [intOf]; omega
                  · have hq2 : ((nth (nth V k) j).toList == s.toList) = false := by rw [hb0.out]; simp [he]
                    have HT : Hid (((nth V k).take (j + 1)).any (fun t => decide (t = s)) = false) := by unfold Hid; rw [hst.out]; simp [he]
                    clear he
                    go_wp2
                    go_round
                    case rel => exact ⟨j + 1, by omega, by go_num, by rw [HT.out]⟩
                    case measure => simp [intOf]; omega
              · have HT : Hid ((nth V k).take j = nth V k) := by unfold Hid; rw [List.take_of_length_le (by rw [← lK.out]; omega)]
                rw [HT.out]
                generalize ((nth V k).any fun t => decide (t = s)) = bb at *
                go_wp2_with (go_at_call 9; go_must (refine (HI.out _ (Below.refl _ _)).mono ?_; rintro e wx ⟨rfl, rfl⟩))
                go_round
                case rel => exact ⟨k + 1, by omega, by go_num⟩
                case measure => simp [intOf]; omega
          · obtain rfl : k = V.length := by omega
            have d3 : decide ((V.length:Int) < N) = false := by have := f4'.out; simp; omega
            have HC := Lib.hid (fun W1 (h : Ext w4 W1) => CheckP qm nm cm hm M N W1 (RM.out.ext h) HSZ.out)
            rw [HCK.out] at HC
            go_wp2_with (first
              | (go_at_call 10; have _t := S5; go_must (refine (HC.out _ E5.out).mono ?_; rintro e w6 ⟨rfl, hb⟩; have S6 := Lib.hid (S5.out.call hb); clear hb))
              | (go_at_call 7; go_must (refine (Posted _).mono ?_; rintro e w5 ⟨rfl, hb⟩; have E5 := Lib.hid hb; have S5 := Lib.hid (S4.out.call hb); have yz := (S5.out.blk 1 rfl).lt; have y0 := (S5.out.blk 1 rfl).cell 0; have y1 := (S5.out.blk 1 rfl).cell 1; have y2 := (S5.out.blk 1 rfl).cell 2; clear hb)))
            go_ret
            exact ⟨rfl, S6.out.ext⟩
      · have hc' : checkB N E W = false := by simpa using hc
        have HN := Lib.hid (fun W1 (h : Ext w W1) => NormalG_no N pe ne ce pw nw cw E hs W W1 (hE.ext h) (hW.ext h) hz hc')
        have hz0 : SzW [] := fun l hl => nomatch hl
        have HM := Lib.hid (fun W1 => MakeGb 0 none 0 0 none 0 0 [] [] [] W1 (Rd.nil _ _ _) ⟨rfl, Rd.nil _ _ _, fun j hj => by omega⟩ hz0)
        have hmc : mkC 0 [] [] = 20 := by decide
        rw [hmc] at HM
        clear hE hW hz hc hc' hz0 hmc
        go_enter Tryz.func3, Tryz.ntmps3
        go_wp2_with (first
          | (go_at_call 7; have _t := S3; go_must (refine (Posted _).mono ?_; rintro e w4 ⟨rfl, hb⟩; have S4 := Lib.hid (S3.out.call hb); clear hb))
          | (go_at_call 6; have _t := S2; go_must (refine (HM.out _).mono ?_; rintro e w3 ⟨qm, nm, cm, hm, rfl, hr, hb⟩; have S3 := Lib.hid ((S2.out.al #[.int .i64 0, .slice none 0 0, .slice none 0 0] 25 w2.heap.size rfl).call hb); clear hb hr))
          | (go_at_call 5; have _t := S1; go_must (refine (HN.out _ S1.out.ext).mono ?_; rintro e w2 ⟨rfl, hb⟩; have S2 := Lib.hid (S1.out.call hb); clear hb))
          | (go_at_call 4; go_must (refine (HBig.out _ S0.out.ext).mono ?_; rintro e w1 ⟨rfl, hb1⟩; have S1 := Lib.hid (S0.out.call hb1); have K1 := Lib.hid (K0.out.ext (Ext.trans (Ext.alloc (Below.refl _ _) _) hb1)); have xz := (S1.out.blk 0 rfl).lt; have x0 := (S1.out.blk 0 rfl).cell 0; have x1 := (S1.out.blk 0 rfl).cell 1; have x2 := (S1.out.blk 0 rfl).cell 2; clear hb1)))
        go_ret
        exact ⟨rfl, S4.out.ext⟩
end Go.Proofs.YtcjkechemjdboaaGreat
