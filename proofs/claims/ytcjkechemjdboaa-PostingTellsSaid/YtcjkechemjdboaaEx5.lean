/- The document's example postings. -/
import Derived.Test.YtcjkechemjdboaaMk5r
import Derived.Test.YtcjkechemjdboaaBig2
import Derived.Test.YtcjkechemjdboaaChk5
import Derived.Test.YtcjkechemjdboaaRef5b
import Derived.Test.YtcjkechemjdboaaEq5
namespace Go.Proofs.Ytcjkechemjdboaa
open Go Go.RowKit
abbrev tA : ByteArray := ⟨#[97]⟩
abbrev tB : ByteArray := ⟨#[98]⟩
abbrev tC : ByteArray := ⟨#[99]⟩
theorem ab : sLess tA tB = true := by unfold sLess; rw [ByteArray.toList_eq, ByteArray.toList_eq]; rfl
theorem ba : sLess tB tA = false := by unfold sLess; rw [ByteArray.toList_eq, ByteArray.toList_eq]; rfl
theorem aa : sLess tA tA = false := sLess_irrefl _
theorem bb : sLess tB tB = false := sLess_irrefl _
theorem anb : tA ≠ tB := by decide
def wantL : List Po := [(tA, [0]), (tB, [0, 1])]
def exWW : List (List ByteArray) := [[tA, tB], [tB]]
theorem exS5 : putAll sLess exWW.flatten = [tA, tB] := by
  show putAll sLess [tA, tB, tB] = _
  unfold putAll
  rw [List.foldl_cons, List.foldl_cons, List.foldl_cons, List.foldl_nil, putL_nil]
  simp only [putL_cons, putL_nil, ab, ba, bb, aa, anb, anb.symm, if_true, if_false, Bool.false_eq_true, reduceIte]
theorem exMP : makeP exWW = wantL := by
  unfold makeP
  rw [exS5]
  rfl
theorem exC5 : checkB 2 [] exWW = true := by decide
theorem exI5 : isB 2 [] exWW = true := by
  unfold isB; rw [exC5]
  have h1 : riseB lessE [] = true := by decide
  have h2 : riseB sLess [tA, tB] = true := by simp [riseB, riseAt, nth, ab]
  have h3 : riseB sLess [tB] = true := by simp [riseB]
  rw [h1]; simp [exWW, h2, h3]
theorem exAl1 : allS wantL [tA, tB] = [0] := by decide
theorem exAn1 : anyS wantL [tA, tB] = [0, 1] := by decide
theorem exAl2 : allS wantL [tC] = [] := by decide
theorem exCk2 : checkP 2 wantL = true := by
  have h1 : wordB tA = true := by decide
  have h2 : wordB tB = true := by decide
  have h3 : riseP 2 [0] = true := by decide
  have h4 : riseP 2 [0, 1] = true := by decide
  simp [checkP, okP, wantL, nth, List.range_succ, h1, h2, h3, h4, ab]
theorem exCk1 : checkP 1 wantL = false := by
  have h4 : riseP 1 [0, 1] = false := by decide
  simp [checkP, okP, wantL, nth, List.range_succ, h4]
theorem exOk : PoOk wantL := by
  intro p hp
  simp [wantL] at hp
  rcases hp with rfl | rfl
  · exact ⟨by decide, fun x hx => by simp at hx; subst hx; exact I64.of (by omega) (by omega)⟩
  · refine ⟨by decide, fun x hx => ?_⟩
    simp at hx
    rcases hx with rfl | rfl <;> exact I64.of (by omega) (by omega)
theorem exSz : PoSz wantL := by
  intro p hp
  simp [wantL] at hp
  rcases hp with rfl | rfl <;> decide
/-- the example's rows where they lie -/
def hsWant (b : Nat) : List Hd := [⟨some ⟨b, 0, none⟩, 1, 1⟩, ⟨some ⟨b + 1, 0, none⟩, 2, 2⟩]
theorem rdWant {W : World} {b : Nat} {t1 t2 t3 : TypeId} (h1 : Blk W b t1 #[.int .i64 0]) (h2 : Blk W (b + 1) t2 #[.int .i64 0, .int .i64 1]) (h3 : Blk W (b + 1 + 1) t3 #[.string tA, .slice (some ⟨b, 0, none⟩) 1 1, .string tB, .slice (some ⟨b + 1, 0, none⟩) 2 2]) :
    RdP W (some ⟨b + 1 + 1, 0, none⟩) 2 (hsWant b) wantL := by
  have h := h3.rd (size := 2) (n := 2) (xs := [.string tA, .slice (some ⟨b, 0, none⟩) 1 1, .string tB, .slice (some ⟨b + 1, 0, none⟩) 2 2]) rfl rfl (by decide)
  refine ⟨rfl, h.ptr, h.small, fun k hk => ?_, fun k hk => ?_, fun k hk => ?_⟩
  · have : k = 0 ∨ k = 1 := by omega
    rcases this with rfl | rfl <;> exact h.cells _ (by omega)
  · have : k = 0 ∨ k = 1 := by omega
    rcases this with rfl | rfl <;> exact h.cells _ (by omega)
  · have : k = 0 ∨ k = 1 := by omega
    rcases this with rfl | rfl
    · exact h1.rd rfl rfl (by show (1:Nat) ≤ _; omega)
    · exact h2.rd rfl rfl (by show (2:Nat) ≤ _; omega)
theorem exMk (w : World) : Calls Try.prog 15 #[.agg #[.int .i64 2, .slice none 0 0, .slice (some ⟨w.heap.size + 1 + 1, 0, none⟩) 2 2]] (((w.alloc (.cells #[.string ⟨#[97]⟩, .string ⟨#[98]⟩] 9)).alloc (.cells #[.string ⟨#[98]⟩] 9)).alloc (.cells #[.slice (some ⟨w.heap.size, 0, none⟩) 2 2, .slice (some ⟨w.heap.size + 1, 0, none⟩) 1 1] 35)) fun e w' => ∃ q c hs', e = .returned (.tuple #[.slice q 2 c, .int .i64 0]) ∧ RdP w' q 2 hs' wantL ∧ Ext w w' := by
  obtain ⟨a1, a2, a3, a4⟩ := alloc3B w #[.string ⟨#[97]⟩, .string ⟨#[98]⟩] #[.string ⟨#[98]⟩] #[.slice (some ⟨w.heap.size, 0, none⟩) 2 2, .slice (some ⟨w.heap.size + 1, 0, none⟩) 1 1] 9 9 35
  generalize (((w.alloc (.cells #[.string ⟨#[97]⟩, .string ⟨#[98]⟩] 9)).alloc (.cells #[.string ⟨#[98]⟩] 9)).alloc (.cells #[.slice (some ⟨w.heap.size, 0, none⟩) 2 2, .slice (some ⟨w.heap.size + 1, 0, none⟩) 1 1] 35)) = W at *
  have hW : RdW W (some ⟨w.heap.size + 1 + 1, 0, none⟩) 2 [⟨some ⟨w.heap.size, 0, none⟩, 2, 2⟩, ⟨some ⟨w.heap.size + 1, 0, none⟩, 1, 1⟩] exWW := by
    refine ⟨rfl, a3.rd rfl rfl (by decide), fun j hj => ?_⟩
    have : j = 0 ∨ j = 1 := by omega
    rcases this with rfl | rfl
    · exact a1.rd rfl rfl (by show (2:Nat) ≤ _; omega)
    · exact a2.rd rfl rfl (by show (1:Nat) ≤ _; omega)
  have hz : SzW exWW := by
    intro l hl s hs
    simp [exWW] at hl
    rcases hl with rfl | rfl <;> simp at hs
    · rcases hs with rfl | rfl <;> decide
    · subst hs; decide
  refine (MakeG_yes 2 none 0 0 _ 2 2 [] _ exWW W (Rd.nil _ _ _) hW hz exI5).mono ?_
  rintro e w' ⟨q, n, c, hs', rfl, h1, h2⟩
  rw [exMP] at h1
  obtain rfl : n = 2 := h1.hn
  exact ⟨q, c, hs', rfl, h1, Ext.trans a4 h2⟩
theorem exWant (w : World) : RdP (((w.alloc (.cells #[.int .i64 0] 3)).alloc (.cells #[.int .i64 0, .int .i64 1] 3)).alloc (.cells #[.string ⟨#[97]⟩, .slice (some ⟨w.heap.size, 0, none⟩) 1 1, .string ⟨#[98]⟩, .slice (some ⟨w.heap.size + 1, 0, none⟩) 2 2] 69)) (some ⟨w.heap.size + 1 + 1, 0, none⟩) 2 (hsWant w.heap.size) wantL ∧ Ext w (((w.alloc (.cells #[.int .i64 0] 3)).alloc (.cells #[.int .i64 0, .int .i64 1] 3)).alloc (.cells #[.string ⟨#[97]⟩, .slice (some ⟨w.heap.size, 0, none⟩) 1 1, .string ⟨#[98]⟩, .slice (some ⟨w.heap.size + 1, 0, none⟩) 2 2] 69)) ∧ (((w.alloc (.cells #[.int .i64 0] 3)).alloc (.cells #[.int .i64 0, .int .i64 1] 3)).alloc (.cells #[.string ⟨#[97]⟩, .slice (some ⟨w.heap.size, 0, none⟩) 1 1, .string ⟨#[98]⟩, .slice (some ⟨w.heap.size + 1, 0, none⟩) 2 2] 69)).heap.size = w.heap.size + 1 + 1 + 1 := by
  obtain ⟨a1, a2, a3, a4⟩ := alloc3B w #[.int .i64 0] #[.int .i64 0, .int .i64 1] #[.string ⟨#[97]⟩, .slice (some ⟨w.heap.size, 0, none⟩) 1 1, .string ⟨#[98]⟩, .slice (some ⟨w.heap.size + 1, 0, none⟩) 2 2] 3 3 69
  exact ⟨rdWant a1 a2 a3, a4, by simp⟩
theorem exAllA (w : World) (p : Option Addr) (hs : List Hd) (h : RdP w p 2 hs wantL) : Calls Try.prog 22 #[.slice p 2 2, .slice (some ⟨w.heap.size, 0, none⟩) 2 2] (w.alloc (.cells #[.string ⟨#[97]⟩, .string ⟨#[98]⟩] 9)) fun e w' => ∃ q c, e = .returned (.tuple #[.slice q 1 c, .int .i64 0]) ∧ Rd w' 1 q 1 (encI [0]) ∧ Ext w w' := by
  have he : Ext w (w.alloc (.cells #[.string ⟨#[97]⟩, .string ⟨#[98]⟩] 9)) := Ext.alloc (Below.refl _ _) _
  refine (AllG p 2 2 hs wantL _ 2 2 [tA, tB] _ (h.ext he) exOk (Rd.new w 9 [.string ⟨#[97]⟩, .string ⟨#[98]⟩] 2 1 rfl (by decide)) (by decide) (by decide) (by decide)).mono ?_
  rintro e w' ⟨q, c, rfl, S⟩
  rw [exAl1] at S ⊢
  exact ⟨q, c, rfl, S.rd 0 rfl (by decide), Ext.trans he S.ext⟩
theorem exAnyA (w : World) (p : Option Addr) (hs : List Hd) (h : RdP w p 2 hs wantL) : Calls Try.prog 23 #[.slice p 2 2, .slice (some ⟨w.heap.size, 0, none⟩) 2 2] (w.alloc (.cells #[.string ⟨#[97]⟩, .string ⟨#[98]⟩] 9)) fun e w' => ∃ q c, e = .returned (.tuple #[.slice q 2 c, .int .i64 0]) ∧ Rd w' 1 q 2 (encI [0, 1]) ∧ Ext w w' := by
  have he : Ext w (w.alloc (.cells #[.string ⟨#[97]⟩, .string ⟨#[98]⟩] 9)) := Ext.alloc (Below.refl _ _) _
  refine (AnyG p 2 2 hs wantL _ 2 2 [tA, tB] _ (h.ext he) exOk (Rd.new w 9 [.string ⟨#[97]⟩, .string ⟨#[98]⟩] 2 1 rfl (by decide)) (by decide) (by decide) (by decide)).mono ?_
  rintro e w' ⟨q, c, rfl, S⟩
  rw [exAn1] at S ⊢
  exact ⟨q, c, rfl, S.rd 0 rfl (by decide), Ext.trans he S.ext⟩
theorem exAllC (w : World) (p : Option Addr) (hs : List Hd) (h : RdP w p 2 hs wantL) : Calls Try.prog 22 #[.slice p 2 2, .slice (some ⟨w.heap.size, 0, none⟩) 1 1] (w.alloc (.cells #[.string ⟨#[99]⟩] 9)) fun e w' => ∃ q c, e = .returned (.tuple #[.slice q 0 c, .int .i64 0]) ∧ Ext w w' := by
  have he : Ext w (w.alloc (.cells #[.string ⟨#[99]⟩] 9)) := Ext.alloc (Below.refl _ _) _
  refine (AllG p 2 2 hs wantL _ 1 1 [tC] _ (h.ext he) exOk (Rd.new w 9 [.string ⟨#[99]⟩] 1 1 rfl (by decide)) (by decide) (by decide) (by decide)).mono ?_
  rintro e w' ⟨q, c, rfl, S⟩
  rw [exAl2] at S ⊢
  exact ⟨q, c, rfl, Ext.trans he S.ext⟩
theorem exInts (w : World) (q : Option Addr) (n c : Nat) (l : List Int) (h : Rd w 1 q n (encI l)) (hn : n ≤ 100) : Calls Try.prog 24 #[.slice q n c, .slice (some ⟨w.heap.size, 0, none⟩) n n] (w.alloc (.cells (encI l).toArray 3)) fun e w' => e = .returned (.bool true) ∧ Ext w w' := by
  have he : Ext w (w.alloc (.cells (encI l).toArray 3)) := Ext.alloc (Below.refl _ _) _
  refine (Ints01 q _ n n c n l l _ (h.ext he) (Rd.new w 3 (encI l) n 1 h.len (by omega))).mono ?_
  rintro e w' ⟨rfl, h1⟩
  exact ⟨by simp, Ext.trans he h1⟩
theorem exInts0 (w : World) (q : Option Addr) (c : Nat) (h : Rd w 1 q 1 (encI [0])) : Calls Try.prog 24 #[.slice q 1 c, .slice (some ⟨w.heap.size, 0, none⟩) 1 1] (w.alloc (.cells #[.int .i64 0] 3)) fun e w' => e = .returned (.bool true) ∧ Ext w w' := exInts w q 1 c [0] h (by decide)
theorem exInts01 (w : World) (q : Option Addr) (c : Nat) (h : Rd w 1 q 2 (encI [0, 1])) : Calls Try.prog 24 #[.slice q 2 c, .slice (some ⟨w.heap.size, 0, none⟩) 2 2] (w.alloc (.cells #[.int .i64 0, .int .i64 1] 3)) fun e w' => e = .returned (.bool true) ∧ Ext w w' := exInts w q 2 c [0, 1] h (by decide)
theorem exAllW (w : World) : Calls Try.prog 22 #[.slice (some ⟨w.heap.size + 1 + 1, 0, none⟩) 2 2, .slice (some ⟨w.heap.size + 1 + 1 + 1, 0, none⟩) 2 2] ((((w.alloc (.cells #[.int .i64 0] 3)).alloc (.cells #[.int .i64 0, .int .i64 1] 3)).alloc (.cells #[.string ⟨#[97]⟩, .slice (some ⟨w.heap.size, 0, none⟩) 1 1, .string ⟨#[98]⟩, .slice (some ⟨w.heap.size + 1, 0, none⟩) 2 2] 69)).alloc (.cells #[.string ⟨#[97]⟩, .string ⟨#[98]⟩] 9)) fun e w' => ∃ q c, e = .returned (.tuple #[.slice q 1 c, .int .i64 0]) ∧ Rd w' 1 q 1 (encI [0]) ∧ RdP w' (some ⟨w.heap.size + 1 + 1, 0, none⟩) 2 (hsWant w.heap.size) wantL ∧ Ext w w' := by
  obtain ⟨h1, h2, h3⟩ := exWant w
  generalize (((w.alloc (.cells #[.int .i64 0] 3)).alloc (.cells #[.int .i64 0, .int .i64 1] 3)).alloc (.cells #[.string ⟨#[97]⟩, .slice (some ⟨w.heap.size, 0, none⟩) 1 1, .string ⟨#[98]⟩, .slice (some ⟨w.heap.size + 1, 0, none⟩) 2 2] 69)) = X at *
  rw [← h3]
  exact (exAllA X _ _ h1).mono fun e w' ⟨q, c, e1, e2, e3⟩ => ⟨q, c, e1, e2, h1.ext e3, Ext.trans h2 e3⟩
set_option maxRecDepth 100000 in
set_option maxHeartbeats 4000000 in
theorem Posted (w : World) : Calls Try.prog 17 #[] w fun e w' => e = .returned (.bool true) ∧ Ext w w' := by
  go_enter Try.func17, Try.ntmps17
  go_wp2_with (first
    | (go_at_call 32; have _t := K9; go_must (have hck := CheckP _ 2 2 _ wantL 1 _ (K9.out.get 2 rfl) exSz; rw [exCk1] at hck; refine hck.mono ?_; rintro e w10 ⟨rfl, hb⟩; have B10 := Lib.hid (Ext.trans B9.out hb); clear hb hck))
    | (go_at_call 32; have _t := K8; go_must (have hck := CheckP _ 2 2 _ wantL 2 _ (K8.out.get 2 rfl) exSz; rw [exCk2] at hck; refine hck.mono ?_; rintro e w9 ⟨rfl, hb⟩; have B9 := Lib.hid (Ext.trans B8.out hb); have K9 := Lib.hid (K8.out.ext hb); clear hb hck))
    | (go_at_call 24; have _t := K7; go_must (refine (exInts01 _ _ _ (K7.out.get 0 rfl)).mono ?_; rintro e w8 ⟨rfl, hb⟩; have B8 := Lib.hid (Ext.trans B7.out hb); have K8 := Lib.hid (K7.out.ext hb); clear hb))
    | (go_at_call 24; have _t := K6; go_must (refine (exInts0 _ _ _ (K6.out.get 1 rfl)).mono ?_; rintro e w7 ⟨rfl, hb⟩; have B7 := Lib.hid (Ext.trans B6.out hb); have K7 := Lib.hid (K6.out.ext hb); clear hb))
    | (go_at_call 18; go_must (refine (Same05 _ _ 2 2 _ _ _ _ wantL wantL _ (K5.out.get 3 rfl) (K5.out.get 2 rfl)).mono ?_; rintro e w6 ⟨rfl, hb⟩; have B6 := Lib.hid (Ext.trans B5.out hb); have K6 := Lib.hid (K5.out.ext hb); clear hb))
    | (go_at_call 22; have _t := K4; go_must (refine (AllGn _ _ _ _ _ _).mono ?_; rintro e w5 ⟨rfl, hb⟩; have B5 := Lib.hid (Ext.trans B4.out hb); have K5 := Lib.hid (K4.out.ext hb); clear hb))
    | (go_at_call 22; have _t := K3; go_must (refine (exAllC _ _ _ (K3.out.get 2 rfl)).mono ?_; rintro e w4 ⟨qc, cc, rfl, hb⟩; have B4 := Lib.hid (Ext.trans B3.out hb); have K4 := Lib.hid (K3.out.ext hb); clear hb))
    | (go_at_call 23; go_must (refine (exAnyA _ _ _ (K2.out.get 1 rfl)).mono ?_; rintro e w3 ⟨qb, cb, rfl, hr, hb⟩; have B3 := Lib.hid (Ext.trans B2.out hb); have K3 := Lib.hid ((K2.out.ext hb).add (fun w => Rd w 1 qb 2 (encI [0, 1])) (fun _ he => hr.ext he)); clear hb hr))
    | (go_at_call 22; go_must (refine (exAllW _).mono ?_; rintro e w2 ⟨qa, ca, rfl, hr, hw, hb⟩; have B2 := Lib.hid (Ext.trans B1.out hb); have K2 := Lib.hid (((K1.out.ext hb).add (fun w => RdP w (some ⟨w1.heap.size + 1 + 1, 0, none⟩) 2 (hsWant w1.heap.size) wantL) (fun _ he => hw.ext he)).add (fun w => Rd w 1 qa 1 (encI [0])) (fun _ he => hr.ext he)); clear hb hr hw))
    | (go_at_call 15; go_must (refine (exMk _).mono ?_; rintro e w1 ⟨q, c, hs', rfl, hr, hb⟩; have B1 := Lib.hid hb; have K1 := Lib.hid ((Kn.nil w1).add (fun w => RdP w q 2 hs' wantL) (fun _ he => hr.ext he)); clear hb hr)))
  go_ret
  exact ⟨rfl, B10.out⟩
end Go.Proofs.Ytcjkechemjdboaa
