/- The program's set, as rising numbers; Both; Find. -/
import Derived.Test.YtcjkechemjdboaaSet5
import Derived.Test.YtcjkechemjdboaaSortI
import Derived.Test.YtcjkechemjdboaaMix
namespace Go.Proofs.Ytcjkechemjdboaa
open Go Go.RowKit Go.Maps
theorem infI : (Try.prog.info? 3).map (fun i => (i.zero, i.size, i.bytes)) = some (some (.int .i64 0), 1, 8) := by kernel_rfl
theorem Rd.oneI (w : World) (t : TypeId) (a : Int) : Rd (w.alloc (.cells #[.int .i64 a] t)) 1 (some ⟨w.heap.size, 0, none⟩) 1 (encI [a]) := Rd.new w t [.int .i64 a] 1 1 rfl (by omega)
theorem encI_append (l m : List Int) : encI (l ++ m) = encI l ++ encI m := by simp [encI]
set_option maxHeartbeats 1000000 in
theorem risingG (a n : Nat) (f : Int → Option Bool) (l : List Int) (w : World) (hA : MapI Try.prog 3 EB a n f w) (hl : ∀ x, f x = some true ↔ x ∈ l) (hn : n ≤ 1000000) :
    Calls Try.prog 73 #[.map (some a)] w fun e w' => ∃ q c, e = .returned (.slice q (putAll ltI l).length c) ∧ Sep w w' [.own 3 1 q (putAll ltI l).length c (encI (putAll ltI l))] := by
  obtain ⟨i0, hi0, hz0, hz1, hz2⟩ := info_parts infI
  obtain ⟨es, clock, hb, F, hs, hf⟩ := hA.raw
  have HBA := Lib.hid hb; clear hb
  have HF := Lib.hid F; clear F
  have HSZ := Lib.hid hs; clear hs
  have HFN := Lib.hid hf; clear hf
  have HL := Lib.hid hl; clear hl
  clear hA
  have S0 := Lib.hid ((Sep.start w).nilrow 3 1)
  have hlt : a < w.heap.size := (Array.getElem?_eq_some_iff.1 HBA.out).1
  go_enter Try.func73, Try.ntmps73
  go_wp2_with (at_range; go_must (refine wpList_range_sep rfl _ _ rfl Try.underlying3 Try.underlying75 rfl HBA.out HF.out HSZ.out HFN.out S0.out w.heap.size rfl ?_; intro w1 since seen c0 cnt S1 R hsz he; have S2 := Lib.hid S1; have HR := Lib.hid R; clear S1 R he hsz))
  go_frame
  go_loopw [3, 4, 5] (fun v _ _ wr => ∃ q c acc since seen c0 cnt left, v = .slice q acc.length c ∧ Sep w wr [.iter w.heap.size a since seen c0, .own 3 1 q acc.length c (encI acc)] ∧ Rng Try.prog 3 EB es clock since seen c0 n f left cnt ∧ acc.Nodup ∧ acc.length + cnt ≤ n ∧ ∀ x, x ∈ acc ↔ f x = some true ∧ left x = false) (fun _ _ _ wr => wr.rangeLeft a w.heap.size)
  case atStart => exact ⟨none, 0, [], since, seen, c0, cnt, _, rfl, S2.out, HR.out, List.nodup_nil, by have := rng_le HR.out; simp; omega, fun x => by
    constructor
    · intro h; cases h
    · rintro ⟨h1, h3⟩; rw [h1] at h3; cases h3⟩
  case round =>
    clear S2 HR since seen c0 cnt
    obtain ⟨q, c, acc, since, seen, c0, cnt, left, rfl, S, R, hnd, hmn, hh⟩ := hrel
    have SH := Lib.hid S; clear S
    have HR := Lib.hid R; clear R
    have HH := Lib.hid hh; clear hh
    have HND := Lib.hid hnd; clear hnd
    have HBW := Lib.hid ((SH.out.ext.block a hlt).trans HBA.out)
    go_wp2_with (at_next; go_must (refine wpList_next_sep rfl _ rfl Try.underlying3 rfl HBW.out SH.out 0 rfl HR.out ?_ ?_))
    · intro hall
      have HP : Hid (sortI acc = putAll ltI l) := sortI_put HND.out fun x => by rw [HH.out, hall x, ← HL.out x]; simp
      have HLN : Hid (acc.length = (putAll ltI l).length) := by unfold Hid; rw [← HP.out, sortI_len]
      clear hall
      go_wp2_with (go_at_call 99; go_must (refine (SortI_sep SH.out 1 rfl (by omega)).mono ?_; rintro e w1 ⟨rfl, S1⟩; have S2 := Lib.hid S1; clear S1))
      go_ret
      have S3 : Sep w w1 [.own 3 1 q acc.length c (encI (sortI acc))] := S2.out.pick [1] (by decide) rfl
      rw [HP.out] at S3
      exact ⟨q, c, ret_slc HLN.out, by rw [← HLN.out]; exact S3⟩
    · intro t w1 since' seen' c0' cnt' hx hl hfx S1 R1 hc hsz hb1 hg1 hen
      obtain ⟨x, v⟩ := t
      have SH1 := Lib.hid S1; clear S1
      have HR1 := Lib.hid R1; clear R1
      have HB1 := Lib.hid hb1; clear hb1
      have HX := Lib.hid hx; clear hx
      have HL1 := Lib.hid hl; clear hl
      have HFX := Lib.hid hfx; clear hfx
      clear hg1 hsz HBW
      have hen2 : (Instr.entry (.pointer (some ⟨w.heap.size, 0, none⟩))).run Try.prog w1 = .ok (.tuple #[.int .i64 x, .bool v]) w1 := hen
      clear hen
      cases v with
      | true =>
        go_wp2_with (at_builtin; go_must (refine wpList_append_sep rfl _ _ _ rfl 3 i0 _ 1 8 Try.underlying38 hi0 hz0 hz1 hz2 rfl (by omega) (SH1.out.junk _) 1 q acc.length c _ rfl rfl _ 1 1 _ rfl (Rd.oneI _ _ _) (one_encI _) (by omega) (by omega) ?_; intro q' c' w2 S' hsz; have S3 := Lib.hid S'; clear S' hsz))
        go_roundw
        case rel => exact ⟨q', c', acc ++ [x], since', seen', c0', cnt', _, by simp, by rw [List.length_append, encI_append]; exact S3.out, HR1.out, List.nodup_append.2 ⟨HND.out, by simp, by
          intro y hy z hz
          simp at hz
          subst hz
          rintro rfl
          have := ((HH.out y).1 hy).2
          have h2 := HL1.out
          simp at h2
          rw [h2] at this; cases this⟩, by simp; omega, fun y => by
          rw [List.mem_append, HH.out y]
          by_cases e : y = x
          · subst e; simp [HFX.out]
          · simp [e]⟩
        case measure => rw [rng_left ((S3.out.ext.block a hlt).trans HBA.out) (S3.out.iter 0 rfl) HR1.out, rng_left ((SH.out.ext.block a hlt).trans HBA.out) (SH.out.iter 0 rfl) HR.out]; exact hc
      | false =>
        go_wp2
        go_roundw
        case rel => exact ⟨q, c, acc, since', seen', c0', cnt', _, rfl, SH1.out, HR1.out, HND.out, by omega, fun y => by
          rw [HH.out y]
          by_cases e : y = x
          · subst e; simp [HFX.out]
          · simp [e]⟩
        case measure => rw [rng_left ((SH1.out.ext.block a hlt).trans HBA.out) (SH1.out.iter 0 rfl) HR1.out, rng_left ((SH.out.ext.block a hlt).trans HBA.out) (SH.out.iter 0 rfl) HR.out]; exact hc
end Go.Proofs.Ytcjkechemjdboaa
