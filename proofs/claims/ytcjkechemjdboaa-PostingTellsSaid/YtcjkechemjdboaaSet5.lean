/- The program's sets of numbers (chapter 5): of, meet, join. -/
import Derived.Test.YtcjkechemjdboaaMapI
import Derived.Test.YtcjkechemjdboaaR1
namespace Go.Proofs.Ytcjkechemjdboaa
open Go Go.RowKit Go.Maps
theorem zeroB (w : World) : (zeroValue 4).run Try.prog w = .ok (.bool false) w := by kernel_rfl
noncomputable def EB : Elm Try.prog 4 Bool := elmB Try.prog 4 Try.underlying4 zeroB
theorem ofG (p : Option Addr) (n c : Nat) (l : List Int) (w : World) (hl : Rd w 1 p n (encI l)) (hi : ∀ x ∈ l, I64 x) (hn : n ≤ 1000000) :
    Calls Try.prog 72 #[.slice p n c] w fun e w' => ∃ b f, e = .returned (.map (some b)) ∧ Sep w w' [.map Try.prog 3 EB b n f] ∧ ∀ x, f x = some true ↔ x ∈ l := by
  have p1 := hl.ptr
  have l1 := hl.nI
  have HL := Lib.hid hl; clear hl
  have L1 := Lib.hid l1; clear l1
  have HI := Lib.hid hi; clear hi
  have hmm := @run_makeMap Try.prog
  have S0 := Lib.hid ((Sep.start w).mkmap EB (k := 3))
  go_enter Try.func72, Try.ntmps72
  go_wp2
  go_loopw [5, 9] (fun _ i wr => ∃ (k : Nat) (f : Int → Option Bool), k ≤ n ∧ i = .int .i64 k ∧ Sep w wr [.map Try.prog 3 EB w.heap.size k f] ∧ ∀ x, f x = some true ↔ x ∈ l.take k) (fun _ i _ => n - (intOf i).toNat)
  case atStart => exact ⟨0, _, Nat.zero_le _, rfl, S0.out, fun x => by simp⟩
  case round =>
    clear S0
    obtain ⟨k, f, hk, rfl, S, hf⟩ := hrel
    have HF := Lib.hid hf; clear hf
    by_cases hlt : k < n
    · have g1 := S.ext.cell (HL.out.cI hlt)
      have SH := Lib.hid S; clear S
      have d1 : (0:Int) ≤ k := by omega
      have d2 : (k:Int) < n := by omega
      have HX : Hid (I64 (nth l k)) := HI.out _ (by rw [nth_eq (by rw [← L1.out]; exact hlt)]; exact List.getElem_mem _)
      go_wp2_with (at_mapUpdate; go_must (refine wpList_update_sep rfl _ _ _ _ rfl Try.underlying3 Try.underlying75 rfl SH.out 0 rfl (by omega) (nth l k) true rfl rfl HX.out ?_; intro w1 S1 hg; have S2 := Lib.hid S1; clear S1 hg))
      go_roundw
      case rel => exact ⟨k + 1, _, by omega, by go_num, S2.out, fun x => by
        rw [take_succ_nth l k (by rw [← L1.out]; exact hlt), List.mem_append, List.mem_singleton, ← HF.out x]
        unfold upF
        by_cases e : x = nth l k <;> simp [e]⟩
      case measure => simp [intOf]; omega
    · obtain rfl : k = n := by omega
      have SH := Lib.hid S; clear S
      go_wp2
      go_ret
      exact ⟨_, f, rfl, SH.out, fun x => by rw [HF.out, List.take_of_length_le (by rw [← L1.out]; omega)]⟩
set_option maxHeartbeats 1000000 in
theorem meetG (a b n m : Nat) (f g : Int → Option Bool) (w : World) (hA : MapI Try.prog 3 EB a n f w) (hB : MapI Try.prog 3 EB b m g w) (hn : n ≤ 1000000) :
    Calls Try.prog 63 #[.map (some a), .map (some b)] w fun e w' => ∃ c h, e = .returned (.map (some c)) ∧ Sep w w' [.map Try.prog 3 EB c n h] ∧ ∀ x, h x = some true ↔ f x = some true ∧ g x = some true := by
  obtain ⟨es, clock, hb, F, hs, hf⟩ := hA.raw
  have HBA := Lib.hid hb; clear hb
  have HF := Lib.hid F; clear F
  have HSZ := Lib.hid hs; clear hs
  have HFN := Lib.hid hf; clear hf
  have HG := Lib.hid hB; clear hB
  clear hA
  have hmm := @run_makeMap Try.prog
  have S0 := Lib.hid ((Sep.start w).mkmap EB (k := 3))
  have hlt : a < w.heap.size := (Array.getElem?_eq_some_iff.1 HBA.out).1
  go_enter Try.func63, Try.ntmps63
  go_wp2_with (at_range; go_must (refine wpList_range_sep rfl _ _ rfl Try.underlying3 Try.underlying75 rfl ((S0.out.ext.block a hlt).trans HBA.out) HF.out HSZ.out HFN.out S0.out (w.heap.size + 1) (by simp) ?_; intro w1 since seen c0 cnt S1 R hsz he; have S2 := Lib.hid S1; have HR := Lib.hid R; clear S1 R he))
  go_frame
  go_loopw [6, 7] (fun _ _ wr => ∃ since seen c0 cnt left h mm, Sep w wr [.iter (w.heap.size + 1) a since seen c0, .map Try.prog 3 EB w.heap.size mm h] ∧ Rng Try.prog 3 EB es clock since seen c0 n f left cnt ∧ mm + cnt ≤ n ∧ ∀ x, h x = some true ↔ f x = some true ∧ g x = some true ∧ left x = false) (fun _ _ wr => wr.rangeLeft a (w.heap.size + 1))
  case atStart => exact ⟨since, seen, c0, cnt, _, _, 0, S2.out, HR.out, by have := rng_le HR.out; omega, fun x => by
    constructor
    · intro h; cases h
    · rintro ⟨h1, _, h3⟩; rw [h1] at h3; cases h3⟩
  case round =>
    clear S2 HR hsz since seen c0 cnt
    obtain ⟨since, seen, c0, cnt, left, h, mm, S, R, hmn, hh⟩ := hrel
    have SH := Lib.hid S; clear S
    have HR := Lib.hid R; clear R
    have HH := Lib.hid hh; clear hh
    have HBW := Lib.hid ((SH.out.ext.block a hlt).trans HBA.out)
    go_wp2_with (at_next; go_must (refine wpList_next_sep rfl _ rfl Try.underlying3 rfl HBW.out SH.out 0 rfl HR.out ?_ ?_))
    · intro hall
      have HALL := Lib.hid hall; clear hall
      go_wp2
      go_ret
      exact ⟨_, h, rfl, (SH.out.pick [1] (by decide) rfl : Sep w _ [.map Try.prog 3 EB w.heap.size mm h]).put 0 rfl (.map Try.prog 3 EB w.heap.size n h) (World.grownBy.refl _ none) (fun k hk => by cases hk) ((SH.out.map 1 rfl).mono (by omega)) (fun k hk => .inl hk), fun x => by rw [HH.out]; simp [HALL.out x]⟩
    · intro t w1 since' seen' c0' cnt' hx hl hfx S1 R1 hc hsz hb1 hg1 hen
      obtain ⟨x, v⟩ := t
      have hlk := (HG.out.ext S1.ext).lookup Try.underlying3 Try.underlying75 hx
      have SH1 := Lib.hid S1; clear S1
      have HR1 := Lib.hid R1; clear R1
      have HB1 := Lib.hid hb1; clear hb1
      have HX := Lib.hid hx; clear hx
      have HL := Lib.hid hl; clear hl
      have HFX := Lib.hid hfx; clear hfx
      clear hg1 hsz HBW
      obtain ⟨u, hu⟩ : ∃ u, u = (g x).getD EB.z := ⟨_, rfl⟩
      rw [← hu] at hlk
      have HU := Lib.hid hu; clear hu
      have hlk2 : (Instr.lookup 75 (.map (some b)) (.int .i64 x) false).run Try.prog w1 = .ok (.bool u) w1 := hlk
      have hen2 : (Instr.entry (.pointer (some ⟨w.heap.size + 1, 0, none⟩))).run Try.prog w1 = .ok (.tuple #[.int .i64 x, .bool v]) w1 := hen
      clear hlk hen
      cases v with
      | false =>
        go_wp2_with (at_mapUpdate; go_must (refine wpList_update_sep rfl _ _ _ _ rfl Try.underlying3 Try.underlying75 rfl SH1.out 1 rfl (by omega) x false rfl rfl HX.out ?_; intro w2 S2 hg; have S3 := Lib.hid S2; clear S2 hg))
        go_roundw
        case rel => exact ⟨since', seen', c0', cnt', _, _, mm + 1, S3.out, HR1.out, by omega, fun y => by
          unfold upF
          by_cases e : y = x
          · subst e; simp [HFX.out]
          · simp [e, HH.out y]⟩
        case measure => rw [rng_left ((S3.out.ext.block a hlt).trans HBA.out) (S3.out.iter 0 rfl) HR1.out, rng_left ((SH.out.ext.block a hlt).trans HBA.out) (SH.out.iter 0 rfl) HR.out]; exact hc
      | true =>
        go_wp2_with (at_mapUpdate; go_must (refine wpList_update_sep rfl _ _ _ _ rfl Try.underlying3 Try.underlying75 rfl SH1.out 1 rfl (by omega) x u rfl rfl HX.out ?_; intro w2 S2 hg; have S3 := Lib.hid S2; clear S2 hg))
        go_roundw
        case rel => exact ⟨since', seen', c0', cnt', _, _, mm + 1, S3.out, HR1.out, by omega, fun y => by
          unfold upF
          by_cases e : y = x
          · subst e
            have hu := HU.out
            cases hg : g y with
            | none => rw [hg] at hu; simp [hu, HFX.out]; rfl
            | some t => rw [hg] at hu; simp [hu, HFX.out]
          · simp [e, HH.out y]⟩
        case measure => rw [rng_left ((S3.out.ext.block a hlt).trans HBA.out) (S3.out.iter 0 rfl) HR1.out, rng_left ((SH.out.ext.block a hlt).trans HBA.out) (SH.out.iter 0 rfl) HR.out]; exact hc
set_option maxHeartbeats 2000000 in
theorem joinG (a b n m : Nat) (f g : Int → Option Bool) (w : World) (hA : MapI Try.prog 3 EB a n f w) (hB : MapI Try.prog 3 EB b m g w) (hn : n ≤ 1000000) (hm : m ≤ 1000000) :
    Calls Try.prog 65 #[.map (some a), .map (some b)] w fun e w' => ∃ c h, e = .returned (.map (some c)) ∧ Sep w w' [.map Try.prog 3 EB c (n + m) h] ∧ ∀ x, h x = some true ↔ f x = some true ∨ g x = some true := by
  obtain ⟨es, clock, hb, F, hs, hf⟩ := hA.raw
  obtain ⟨es2, clock2, hb2, F2, hs2, hf2⟩ := hB.raw
  have HBA := Lib.hid hb; clear hb
  have HF := Lib.hid F; clear F
  have HSZ := Lib.hid hs; clear hs
  have HFN := Lib.hid hf; clear hf
  have HBB := Lib.hid hb2; clear hb2
  have HF2 := Lib.hid F2; clear F2
  have HSZ2 := Lib.hid hs2; clear hs2
  have HFN2 := Lib.hid hf2; clear hf2
  clear hA hB
  have hmm := @run_makeMap Try.prog
  have S0 := Lib.hid ((Sep.start w).mkmap EB (k := 3))
  have hlt : a < w.heap.size := (Array.getElem?_eq_some_iff.1 HBA.out).1
  have hlt2 : b < w.heap.size := (Array.getElem?_eq_some_iff.1 HBB.out).1
  go_enter Try.func65, Try.ntmps65
  go_wp2_with (at_range; go_must (refine wpList_range_sep rfl _ _ rfl Try.underlying3 Try.underlying75 rfl ((S0.out.ext.block a hlt).trans HBA.out) HF.out HSZ.out HFN.out S0.out (w.heap.size + 1) (by simp) ?_; intro w1 since seen c0 cnt S1 R hsz he; have S2 := Lib.hid S1; have HR := Lib.hid R; clear S1 R he))
  go_frame
  go_loopw [6, 7] (fun _ _ wr => ∃ since seen c0 cnt left h mm, Sep w wr [.iter (w.heap.size + 1) a since seen c0, .map Try.prog 3 EB w.heap.size mm h] ∧ Rng Try.prog 3 EB es clock since seen c0 n f left cnt ∧ mm + cnt ≤ n ∧ ∀ x, h x = some true ↔ f x = some true ∧ left x = false) (fun _ _ wr => wr.rangeLeft a (w.heap.size + 1))
  case atStart => exact ⟨since, seen, c0, cnt, _, _, 0, S2.out, HR.out, by have := rng_le HR.out; omega, fun x => by
    constructor
    · intro h; cases h
    · rintro ⟨h1, h3⟩; rw [h1] at h3; cases h3⟩
  case round =>
    clear S2 HR hsz since seen c0 cnt
    obtain ⟨since, seen, c0, cnt, left, h, mm, S, R, hmn, hh⟩ := hrel
    have SH := Lib.hid S; clear S
    have HR := Lib.hid R; clear R
    have HH := Lib.hid hh; clear hh
    have HBW := Lib.hid ((SH.out.ext.block a hlt).trans HBA.out)
    have HBW2 := Lib.hid ((SH.out.ext.block b hlt2).trans HBB.out)
    go_wp2_with (at_next; go_must (refine wpList_next_sep rfl _ rfl Try.underlying3 rfl HBW.out SH.out 0 rfl HR.out ?_ ?_))
    · intro hall
      have HH2 : Hid (∀ x, h x = some true ↔ f x = some true) := fun x => by rw [HH.out]; simp [hall x]
      clear hall HH HR
      have S1 : Hid (Sep w wr [.map Try.prog 3 EB w.heap.size n h]) := (SH.out.pick [1] (by decide) rfl : Sep w _ [.map Try.prog 3 EB w.heap.size mm h]).put 0 rfl (.map Try.prog 3 EB w.heap.size n h) (World.grownBy.refl _ none) (fun k hk => by cases hk) ((SH.out.map 1 rfl).mono (by omega)) (fun k hk => .inl hk)
      clear SH hmn
      obtain ⟨we, rfl⟩ : ∃ we : World, we = wr := ⟨_, rfl⟩
      go_wp2_with (at_range; go_must (refine wpList_range_sep rfl _ _ rfl Try.underlying3 Try.underlying75 rfl HBW2.out HF2.out HSZ2.out HFN2.out S1.out we.heap.size rfl ?_; intro w1 since2 seen2 c02 cnt2 S3 R hsz he; have S2 := Lib.hid S3; have HR2 := Lib.hid R; clear S3 R he hsz))
      go_frame
      go_loopw [8, 9] (fun _ _ wr => ∃ since seen c0 cnt left h2 mm, Sep w wr [.iter we.heap.size b since seen c0, .map Try.prog 3 EB w.heap.size mm h2] ∧ Rng Try.prog 3 EB es2 clock2 since seen c0 m g left cnt ∧ mm + cnt ≤ n + m ∧ ∀ x, h2 x = some true ↔ f x = some true ∨ g x = some true ∧ left x = false) (fun _ _ wr => wr.rangeLeft b we.heap.size)
      case atStart => exact ⟨since2, seen2, c02, cnt2, _, _, n, S2.out, HR2.out, by have := rng_le HR2.out; omega, fun x => by
        rw [HH2.out]
        constructor
        · exact .inl
        · rintro (h1 | ⟨h1, h3⟩)
          · exact h1
          · rw [h1] at h3; cases h3⟩
      case round =>
        clear S1 S2 HR2 HBW HBW2 since seen c0 cnt left mm HH2
        obtain ⟨since, seen, c0, cnt, left, h2, mm, S, R, hmn, hh⟩ := hrel
        have SH := Lib.hid S; clear S
        have HR := Lib.hid R; clear R
        have HH := Lib.hid hh; clear hh
        have HBW := Lib.hid ((SH.out.ext.block b hlt2).trans HBB.out)
        go_wp2_with (at_next; go_must (refine wpList_next_sep rfl _ rfl Try.underlying3 rfl HBW.out SH.out 0 rfl HR.out ?_ ?_))
        · intro hall
          have HALL := Lib.hid hall; clear hall
          go_wp2
          go_ret
          exact ⟨_, h2, rfl, (SH.out.pick [1] (by decide) rfl : Sep w _ [.map Try.prog 3 EB w.heap.size mm h2]).put 0 rfl (.map Try.prog 3 EB w.heap.size (n + m) h2) (World.grownBy.refl _ none) (fun k hk => by cases hk) ((SH.out.map 1 rfl).mono (by omega)) (fun k hk => .inl hk), fun x => by rw [HH.out]; simp [HALL.out x]⟩
        · intro t w1 since' seen' c0' cnt' hx hl hfx S1 R1 hc hsz hb1 hg1 hen
          obtain ⟨x, v⟩ := t
          have hlk := (S1.map 1 rfl).lookup Try.underlying3 Try.underlying75 hx
          have SH1 := Lib.hid S1; clear S1
          have HR1 := Lib.hid R1; clear R1
          have HB1 := Lib.hid hb1; clear hb1
          have HX := Lib.hid hx; clear hx
          have HL := Lib.hid hl; clear hl
          have HFX := Lib.hid hfx; clear hfx
          clear hg1 hsz HBW
          obtain ⟨u, hu⟩ : ∃ u, u = (h2 x).getD EB.z := ⟨_, rfl⟩
          rw [← hu] at hlk
          have HU := Lib.hid hu; clear hu
          have hlk2 : (Instr.lookup 75 (.map (some w.heap.size)) (.int .i64 x) false).run Try.prog w1 = .ok (.bool u) w1 := hlk
          have hen2 : (Instr.entry (.pointer (some ⟨we.heap.size, 0, none⟩))).run Try.prog w1 = .ok (.tuple #[.int .i64 x, .bool v]) w1 := hen
          clear hlk hen
          have HUV : Hid ((h2 x = some true) ↔ u = true) := by
            unfold Hid
            rw [HU.out]
            cases h2 x with
            | none => simp; rfl
            | some t => simp
          cases u with
          | true =>
            go_wp2_with (at_mapUpdate; go_must (refine wpList_update_sep rfl _ _ _ _ rfl Try.underlying3 Try.underlying75 rfl SH1.out 1 rfl (by omega) x true rfl rfl HX.out ?_; intro w2 S2 hg; have S3 := Lib.hid S2; clear S2 hg))
            go_roundw
            case rel => exact ⟨since', seen', c0', cnt', _, _, mm + 1, S3.out, HR1.out, by omega, fun y => by
              unfold upF
              by_cases e : y = x
              · subst e
                have h1 := (HH.out y).1 (HUV.out.2 (by simp))
                rcases h1 with h1 | ⟨h1, _⟩
                · simp [h1]
                · simp [h1]
              · simp [e, HH.out y]⟩
            case measure => rw [rng_left ((S3.out.ext.block b hlt2).trans HBB.out) (S3.out.iter 0 rfl) HR1.out, rng_left ((SH.out.ext.block b hlt2).trans HBB.out) (SH.out.iter 0 rfl) HR.out]; exact hc
          | false =>
            go_wp2_with (at_mapUpdate; go_must (refine wpList_update_sep rfl _ _ _ _ rfl Try.underlying3 Try.underlying75 rfl SH1.out 1 rfl (by omega) x v rfl rfl HX.out ?_; intro w2 S2 hg; have S3 := Lib.hid S2; clear S2 hg))
            go_roundw
            case rel => exact ⟨since', seen', c0', cnt', _, _, mm + 1, S3.out, HR1.out, by omega, fun y => by
              unfold upF
              by_cases e : y = x
              · subst e
                have h1 : ¬ f y = some true := fun h => by have := HUV.out.1 ((HH.out y).2 (.inl h)); cases this
                simp [HFX.out, h1]
              · simp [e, HH.out y]⟩
            case measure => rw [rng_left ((S3.out.ext.block b hlt2).trans HBB.out) (S3.out.iter 0 rfl) HR1.out, rng_left ((SH.out.ext.block b hlt2).trans HBB.out) (SH.out.iter 0 rfl) HR.out]; exact hc
    · intro t w1 since' seen' c0' cnt' hx hl hfx S1 R1 hc hsz hb1 hg1 hen
      obtain ⟨x, v⟩ := t
      have SH1 := Lib.hid S1; clear S1
      have HR1 := Lib.hid R1; clear R1
      have HB1 := Lib.hid hb1; clear hb1
      have HX := Lib.hid hx; clear hx
      have HL := Lib.hid hl; clear hl
      have HFX := Lib.hid hfx; clear hfx
      clear hg1 hsz HBW HBW2
      have hen2 : (Instr.entry (.pointer (some ⟨w.heap.size + 1, 0, none⟩))).run Try.prog w1 = .ok (.tuple #[.int .i64 x, .bool v]) w1 := hen
      clear hen
      go_wp2_with (at_mapUpdate; go_must (refine wpList_update_sep rfl _ _ _ _ rfl Try.underlying3 Try.underlying75 rfl SH1.out 1 rfl (by omega) x v rfl rfl HX.out ?_; intro w2 S2 hg; have S3 := Lib.hid S2; clear S2 hg))
      go_roundw
      case rel => exact ⟨since', seen', c0', cnt', _, _, mm + 1, S3.out, HR1.out, by omega, fun y => by
        unfold upF
        by_cases e : y = x
        · subst e; simp [HFX.out]
        · simp [e, HH.out y]⟩
      case measure => rw [rng_left ((S3.out.ext.block a hlt).trans HBA.out) (S3.out.iter 0 rfl) HR1.out, rng_left ((SH.out.ext.block a hlt).trans HBA.out) (SH.out.iter 0 rfl) HR.out]; exact hc
end Go.Proofs.Ytcjkechemjdboaa
