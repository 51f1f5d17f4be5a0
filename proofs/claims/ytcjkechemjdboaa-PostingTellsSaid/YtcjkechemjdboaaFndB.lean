/- The program's found, by join: the closures, and all that they make. (Made of FndA by gen2.py.) -/
import Derived.Test.YtcjkechemjdboaaFndA
namespace Go.Proofs.Ytcjkechemjdboaa
open Go Go.RowKit Go.Maps
theorem methAny (a : Nat) (w : World) : Calls Try.prog 64 #[.map (some a)] w fun e w' => e = .returned (.func (.func 65) #[.map (some a)] #[]) ∧ Ext w w' := by
  go_enter Try.func64, Try.ntmps64
  go_wp2
  go_ret
  exact ⟨rfl, Below.refl _ _⟩
/-- what the free operations of the closure's region tell -/
def CloAny (w : World) (L : List Po) (s : ByteArray) (S : Int → Prop) (a n : Nat) (i : Nat) (v : Value) (W : World) : Prop :=
  match i with
  | 2 => v = .func (.func 65) #[.map (some a)] #[]
  | 5 => ∃ q c, v = .slice q (findL L s).length c ∧ Rd W 1 q (findL L s).length (encI (findL L s))
  | 6 => ∃ b f, v = .map (some b) ∧ MapI Try.prog 3 EB b 1000 f W ∧ ∀ x, f x = some true ↔ x ∈ findL L s
  | 7 => ∃ b f, v = .map (some b) ∧ w.heap.size ≤ b ∧ MapI Try.prog 3 EB b (n + 1000) f W ∧ ∀ x, f x = some true ↔ (S x ∨ x ∈ findL L s)
  | _ => True
theorem CloAny_mono {w : World} {L : List Po} {s : ByteArray} {S : Int → Prop} {a n : Nat} : ∀ i v W W', Ext W W' → CloAny w L s S a n i v W → CloAny w L s S a n i v W' := by
  intro i v W W' he h
  unfold CloAny at *
  split at h
  · exact h
  · obtain ⟨q, c, h1, h2⟩ := h; exact ⟨q, c, h1, h2.ext he⟩
  · obtain ⟨b, f, h1, h2, h3⟩ := h; exact ⟨b, f, h1, h2.ext he, h3⟩
  · obtain ⟨b, f, h1, h0, h2, h3⟩ := h; exact ⟨b, f, h1, h0, h2.ext he, h3⟩
  · trivial
set_option maxRecDepth 100000 in
set_option maxHeartbeats 1000000 in
theorem closAny (a n : Nat) (f : Int → Option Bool) (S : Int → Prop) (s : ByteArray) (b5 b3 : Nat) (p : Option Addr) (np cp : Nat) (hs : List Hd) (L : List Po) (w : World) (hA : MapI Try.prog 3 EB a n f w) (hf : ∀ x, f x = some true ↔ S x)
    (h5 : w.cell? ⟨b5, 0, none⟩ = some (.func (.func 64) #[] #[])) (h3 : w.cell? ⟨b3, 0, none⟩ = some (.slice p np cp)) (hL : RdP w p np hs L) (hok : PoOk L) (hn : n ≤ 500000) :
    Calls Try.prog 98 #[.map (some a), .string s, .pointer (some ⟨b5, 0, none⟩), .pointer (some ⟨b3, 0, none⟩)] w fun e w' => ∃ c h, e = .returned (.map (some c)) ∧ Sep w w' [.map Try.prog 3 EB c (n + 1000) h] ∧ ∀ x, h x = some true ↔ (S x ∨ x ∈ findL L s) := by
  have HFO := Lib.hid (findL_ok hok s)
  have HA := Lib.hid hA; clear hA
  have HF := Lib.hid hf; clear hf
  have HL := Lib.hid hL; clear hL
  have HOK := Lib.hid hok; clear hok
  have x5 := fun x : ExtOf w => x.ext.cell h5
  have x3 := fun x : ExtOf w => x.ext.cell h3
  go_enter Try.func98, Try.ntmps98
  go_wp2
  refine wp_region_mix [true, true, false, true, true, false, false, false] (CloAny w L s S a n) (by kernel_rfl) (by kernel_rfl) (by kernel_rfl) CloAny_mono ?_
  simp only [nfM]
  repeat (go_big_quiet_step ((fail)))
  refine wpQuiet_nil ⟨⟨fun vs W hE hd => ?_, fun vs W hE hd => ?_, fun vs W hE hd => ?_, fun vs W hE hd => ?_, trivial⟩, fun vs W hE hkn => ?_⟩
  · simp [putM, execOp, go_sem]
    exact (methAny a W).mono fun e w' ⟨h1, h2⟩ => ⟨_, h1, rfl, h2⟩
  · simp [putM, execOp, go_sem]
    exact (FindG p np cp hs L s W (HL.out.ext hE) HOK.out).mono fun e w' ⟨q, c, h1, h2⟩ => ⟨_, h1, ⟨q, c, rfl, h2.rd 0 rfl (by have := HFO.out.1; omega)⟩, h2.ext⟩
  · obtain ⟨q, c, e1, e2⟩ := hd 5 (by decide) rfl
    simp [putM, execOp, go_sem, e1]
    exact (ofG q _ c (findL L s) W e2 HFO.out.2 (by have := HFO.out.1; omega)).mono fun e w' ⟨b, g, h1, h2, h3⟩ => ⟨_, h1, ⟨b, g, rfl, (h2.map 0 rfl).mono HFO.out.1, h3⟩, h2.ext⟩
  · have e0 : vs 2 = _ := hd 2 (by decide) rfl
    obtain ⟨b, g, e1, e2, e3⟩ := hd 6 (by decide) rfl
    simp [putM, execOp, go_sem, e0, e1]
    exact (joinG a b n 1000 f g W (HA.out.ext hE) e2 (by omega) (by omega)).mono fun e w' ⟨c, h, h1, h2, h3⟩ => ⟨_, h1, ⟨c, h, rfl, Nat.le_trans hE.size (h2.new _ (List.mem_singleton.2 rfl) c rfl), (h2.map 0 rfl).mono (by omega), fun x => by rw [h3, HF.out, e3]⟩, h2.ext⟩
  · obtain ⟨_, ⟨_, _, k1, _⟩, ⟨_, _, k2, _⟩, ⟨c, h, k3, k4, k5, k6⟩, _⟩ := hkn
    have HK5 := Lib.hid k5
    have HK6 := Lib.hid k6
    have HE := Lib.hid hE
    have HK4 := Lib.hid k4
    simp only [putM, k3, List.length_cons, List.length_nil, Nat.zero_add, Nat.reduceAdd, List.drop_succ_cons, List.drop_zero]
    clear x5 x3 k1 k2 k3 k4 k5 k6 hE
    go_wp2
    go_ret
    exact ⟨c, h, rfl, ⟨HE.out, fun q hq => by rw [List.mem_singleton] at hq; subst hq; exact HK5.out, fun q hq i hi => by rw [List.mem_singleton] at hq; subst hq; have : i = c := hi; rw [this]; exact HK4.out, List.pairwise_singleton _ _⟩, HK6.out⟩
set_option maxHeartbeats 1000000 in
theorem foldAny (a n : Nat) (f : Int → Option Bool) (S : Int → Prop) (R : List ByteArray) (pr : Option Addr) (nr cr : Nat) (b5 b3 : Nat) (p : Option Addr) (np cp : Nat) (hs : List Hd) (L : List Po) (w : World) (hA : MapI Try.prog 3 EB a n f w) (hf : ∀ x, f x = some true ↔ S x)
    (hR : Rd w 1 pr nr (encS R)) (h5 : w.cell? ⟨b5, 0, none⟩ = some (.func (.func 64) #[] #[])) (h3 : w.cell? ⟨b3, 0, none⟩ = some (.slice p np cp)) (hL : RdP w p np hs L) (hok : PoOk L) (hn : n + 1000 * nr ≤ 400000) :
    Calls Try.prog 97 #[.map (some a), .slice pr nr cr, .func (.func 98) #[] #[.pointer (some ⟨b5, 0, none⟩), .pointer (some ⟨b3, 0, none⟩)]] w fun e w' => ∃ c h, e = .returned (.map (some c)) ∧ MapI Try.prog 3 EB c (n + 1000 * nr) h w' ∧ Ext w w' ∧ ∀ x, h x = some true ↔ (S x ∨ ∃ u ∈ R, x ∈ findL L u) := by
  have p1 := hR.ptr
  have n1 := hR.small
  have l1 := hR.nS
  have HA := Lib.hid hA; clear hA
  have HF := Lib.hid hf; clear hf
  have HL := Lib.hid hL; clear hL
  have HOK := Lib.hid hok; clear hok
  have HR := Lib.hid hR; clear hR
  have L1 := Lib.hid l1; clear l1
  have H5 := Lib.hid h5; clear h5
  have H3 := Lib.hid h3; clear h3
  go_enter Try.func97, Try.ntmps97
  go_wp2
  go_loopw [0, 8, 11] (fun v _ i wr => ∃ (k b : Nat) (g : Int → Option Bool), k ≤ nr ∧ i = .int .i64 k ∧ v = .map (some b) ∧ Ext w wr ∧ MapI Try.prog 3 EB b (n + 1000 * k) g wr ∧ ∀ x, g x = some true ↔ (S x ∨ ∃ u ∈ R.take k, x ∈ findL L u)) (fun _ _ i _ => nr - (intOf i).toNat)
  case atStart => exact ⟨0, a, f, Nat.zero_le _, rfl, rfl, Below.refl _ _, HA.out, fun x => by rw [HF.out]; simp⟩
  case round =>
    obtain ⟨k, b, g, hk, rfl, rfl, hE, hM, hg⟩ := hrel
    have HE := Lib.hid hE; clear hE
    have HM := Lib.hid hM; clear hM
    have HG := Lib.hid hg; clear hg
    by_cases hlt : k < nr
    · have g1 := HE.out.cell (HR.out.cS hlt)
      have d1 : (0:Int) ≤ k := by omega
      have d2 : (k:Int) < nr := by omega
      go_wp2_with (go_at_call 98; go_must (refine (closAny b (n + 1000 * k) g _ (nth R k) b5 b3 p np cp hs L _ HM.out HG.out (HE.out.cell H5.out) (HE.out.cell H3.out) (HL.out.ext HE.out) HOK.out (by omega)).mono ?_; rintro e w2 ⟨c, h, rfl, S1, hh⟩; have S2 := Lib.hid S1; have HH := Lib.hid hh; clear S1 hh))
      go_roundw
      case rel => exact ⟨k + 1, c, h, by omega, by go_num, rfl, Ext.trans HE.out S2.out.ext, (S2.out.map 0 rfl).mono (by omega), fun x => by
        rw [HH.out, take_succ_nth R k (by rw [← L1.out]; exact hlt)]
        simp only [List.mem_append, List.mem_singleton]
        constructor
        · rintro ((h1 | ⟨u, hu, h2⟩) | h3)
          · exact .inl h1
          · exact .inr ⟨u, .inl hu, h2⟩
          · exact .inr ⟨_, .inr rfl, h3⟩
        · rintro (h1 | ⟨u, hu | hu, h2⟩)
          · exact .inl (.inl h1)
          · exact .inl (.inr ⟨u, hu, h2⟩)
          · subst hu; exact .inr h2⟩
      case measure => simp [intOf]; omega
    · obtain rfl : k = nr := by omega
      go_wp2
      go_ret
      exact ⟨b, g, rfl, HM.out, HE.out, fun x => by rw [HG.out, List.take_of_length_le (by rw [← L1.out]; omega)]⟩
/-- the places of any word -/
def anyS (L : List Po) (ws : List ByteArray) : List Int := putAll ltI (ws.flatMap (findL L))
theorem anyS_mem {L : List Po} {ws : List ByteArray} {x : Int} (h : 0 < ws.length) : (x ∈ ws.flatMap (findL L)) ↔ (x ∈ findL L (nth ws 0) ∨ ∃ u ∈ ws.drop 1, x ∈ findL L u) := by
  have e : ws = nth ws 0 :: ws.drop 1 := by
    have := drop_nth ws 0 h
    rwa [List.drop_zero] at this
  conv => lhs; rw [e]
  rw [List.flatMap_cons, List.mem_append, List.mem_flatMap]
def FouAny (L : List Po) (ws : List ByteArray) (nr : Nat) (i : Nat) (v : Value) (W : World) : Prop :=
  match i with
  | 4 => ∃ q c, v = .slice q (findL L (nth ws 0)).length c ∧ Rd W 1 q (findL L (nth ws 0)).length (encI (findL L (nth ws 0)))
  | 5 => ∃ b f, v = .map (some b) ∧ MapI Try.prog 3 EB b 1000 f W ∧ ∀ x, f x = some true ↔ x ∈ findL L (nth ws 0)
  | 9 => ∃ b f, v = .map (some b) ∧ MapI Try.prog 3 EB b (1000 + 1000 * nr) f W ∧ ∀ x, f x = some true ↔ (x ∈ findL L (nth ws 0) ∨ ∃ u ∈ ws.drop 1, x ∈ findL L u)
  | _ => True
theorem FouAny_mono {L : List Po} {ws : List ByteArray} {nr : Nat} : ∀ i v W W', Ext W W' → FouAny L ws nr i v W → FouAny L ws nr i v W' := by
  intro i v W W' he h
  unfold FouAny at *
  split at h
  · obtain ⟨q, c, h1, h2⟩ := h; exact ⟨q, c, h1, h2.ext he⟩
  · obtain ⟨b, f, h1, h2, h3⟩ := h; exact ⟨b, f, h1, h2.ext he, h3⟩
  · obtain ⟨b, f, h1, h2, h3⟩ := h; exact ⟨b, f, h1, h2.ext he, h3⟩
  · trivial
set_option maxRecDepth 100000 in
set_option maxHeartbeats 2000000 in
theorem foundAny (p : Option Addr) (np cp : Nat) (hs : List Hd) (L : List Po) (pr : Option Addr) (nr cr : Nat) (ws : List ByteArray) (w : World) (hL : RdP w p np hs L) (hok : PoOk L) (hR : Rd w 1 pr nr (encS ws)) (hcr : nr ≤ cr) (h0 : 0 < nr) (hn : nr ≤ 100) :
    Calls Try.prog 61 #[.slice p np cp, .slice pr nr cr, .func (.func 64) #[] #[]] w fun e w' => ∃ q c, e = .returned (.tuple #[.slice q (anyS L ws).length c, .int .i64 0]) ∧ Sep w w' [.own 3 1 q (anyS L ws).length c (encI (anyS L ws))] := by
  obtain ⟨l0, hl0⟩ : ∃ l0, l0 = ws.flatMap (findL L) := ⟨_, rfl⟩
  have hal : anyS L ws = putAll ltI l0 := by rw [hl0]; rfl
  rw [hal]
  have HMEM : Hid (∀ x, x ∈ l0 ↔ (x ∈ findL L (nth ws 0) ∨ ∃ u ∈ ws.drop 1, x ∈ findL L u)) := fun x => by rw [hl0]; exact anyS_mem (by rw [← hR.nS]; exact h0)
  clear hal hl0
  have HFO := Lib.hid (findL_ok hok (nth ws 0))
  have p1 := hR.ptr
  have n1 := hR.small
  have g1 := hR.cS h0
  have HRC : Hid (Rd w 1 (cutp pr cr 1 1) (nr - 1) (encS (ws.drop 1))) := by
    have := hR.cut (l := 1) (h := nr) (by omega) (Nat.le_refl _) hcr
    rw [encS_drop, List.take_of_length_le (by rw [encS_len, List.length_drop, hR.nS]; omega)] at this
    exact this
  have L1 := Lib.hid hR.nS
  clear hR
  have HL := Lib.hid hL; clear hL
  have HOK := Lib.hid hok; clear hok
  have S0 := Lib.hid (((Sep.start w).al #[.slice p np cp] 28 w.heap.size rfl).al #[.func (.func 64) #[] #[]] 77 (w.heap.size + 1) (by simp))
  have hne : ((nr : Int) == 0) = false := by simp; omega
  have d1 : (1:Int) ≤ nr := by omega
  have d2 : (0:Int) < nr := by omega
  have d3 : (nr:Int) ≤ cr := by omega
  go_enter Try.func61, Try.ntmps61
  go_wp2
  obtain ⟨X, hX⟩ : ∃ X, X = ((w.alloc (.cells #[.slice p np cp] 28)).alloc (.cells #[.func (.func 64) #[] #[]] 77)) := ⟨_, rfl⟩
  have SX := S0.out
  rw [← hX] at SX ⊢
  have HX := Lib.hid SX.ext
  have c3 := (SX.blk 1 rfl).cell 0
  have c5 := (SX.blk 0 rfl).cell 0
  have g2 := HX.out.cell g1
  clear hX S0 g1 SX
  have H3 : Hid (X.cell? ⟨w.heap.size, 0, none⟩ = some (.slice p np cp)) := c3
  have H5 : Hid (X.cell? ⟨w.heap.size + 1, 0, none⟩ = some (.func (.func 64) #[] #[])) := c5
  have x3 := fun x : ExtOf X => x.ext.cell c3
  have x5 := fun x : ExtOf X => x.ext.cell c5
  have xg := fun x : ExtOf X => x.ext.cell g2
  refine wp_region_mix [true, true, true, true, false, false, true, true, true, false] (FouAny L ws nr) (by kernel_rfl) (by kernel_rfl) (by kernel_rfl) FouAny_mono ?_
  simp only [nfM]
  repeat (go_big_quiet_step ((fail)))
  refine wpQuiet_nil ⟨⟨fun vs W hE hd => ?_, fun vs W hE hd => ?_, fun vs W hE hd => ?_, trivial⟩, fun vs W hE hkn => ?_⟩
  · simp [putM, execOp, go_sem]
    exact (FindG p np cp hs L _ W ((HL.out.ext HX.out).ext hE) HOK.out).mono fun e w' ⟨q, c, h1, h2⟩ => ⟨_, h1, ⟨q, c, rfl, h2.rd 0 rfl (by have := HFO.out.1; omega)⟩, h2.ext⟩
  · obtain ⟨q, c, e1, e2⟩ := hd 4 (by decide) rfl
    simp [putM, execOp, go_sem, e1]
    exact (ofG q _ c _ W e2 HFO.out.2 (by have := HFO.out.1; omega)).mono fun e w' ⟨b, g, h1, h2, h3⟩ => ⟨_, h1, ⟨b, g, rfl, (h2.map 0 rfl).mono HFO.out.1, h3⟩, h2.ext⟩
  · obtain ⟨b, g, e1, e2, e3⟩ := hd 5 (by decide) rfl
    simp [putM, execOp, go_sem, e1]
    exact (foldAny b 1000 g _ (ws.drop 1) (cutp pr cr 1 1) (nr - 1) (cr - 1) (w.heap.size + 1) w.heap.size p np cp hs L W e2 e3 ((HRC.out.ext HX.out).ext hE) (hE.cell H5.out) (hE.cell H3.out) ((HL.out.ext HX.out).ext hE) HOK.out (by omega)).mono fun e w' ⟨c, h, h1, h2, h3, h4⟩ => ⟨_, h1, ⟨c, h, rfl, h2.mono (by omega), h4⟩, h3⟩
  · obtain ⟨⟨_, _, k1, _⟩, ⟨_, _, k2, _⟩, ⟨b, f, k3, k4, k5⟩, _⟩ := hkn
    have HK4 := Lib.hid k4
    have HE := Lib.hid (Ext.trans HX.out hE)
    have HK5 : Hid (∀ x, f x = some true ↔ x ∈ l0) := fun x => by rw [k5, HMEM.out]
    simp only [putM, k1, k2, k3, List.length_cons, List.length_nil, Nat.zero_add, Nat.reduceAdd, List.drop_succ_cons, List.drop_zero]
    clear x5 x3 xg k1 k2 k3 k4 k5 hE c3 c5 g2
    go_wp2_with (go_at_call 73; go_must (refine (risingG b _ f _ _ HK4.out HK5.out (by omega)).mono ?_; rintro e w2 ⟨q, c, rfl, S1⟩; have S2 := Lib.hid (((Sep.start w).call HE.out).comp S1); clear S1))
    go_ret2
    exact ⟨q, c, rfl, S2.out⟩
theorem foundAny0 (p : Option Addr) (np cp : Nat) (pr : Option Addr) (cr : Nat) (w : World) :
    Calls Try.prog 61 #[.slice p np cp, .slice pr 0 cr, .func (.func 64) #[] #[]] w fun e w' => e = .returned (.tuple #[.slice none 0 0, .int .i64 1]) ∧ Ext w w' := by
  go_enter Try.func61, Try.ntmps61
  go_wp2
  go_ret2
  exact ⟨rfl, Ext.alloc (Ext.alloc (Below.refl _ _) _) _⟩
end Go.Proofs.Ytcjkechemjdboaa
