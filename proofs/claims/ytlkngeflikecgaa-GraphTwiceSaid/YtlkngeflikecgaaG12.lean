/- The document's example rows. -/
import Derived.Test.YtlkngeflikecgaaG10
import Derived.Test.YtlkngeflikecgaaG11
namespace Go.Proofs.Ytlkngeflikecgaa
open Go Go.RowKit Go.Shelf Go.Lib Go.Sort
theorem Blk.rd {W : World} {g : Nat} {t : TypeId} {cs : Array Value} (h : Blk W g t cs) {n size : Nat} {xs : List Value} (hx : cs.toList = xs) (hn : xs.length = n * size) (hs : n ≤ 9223372036854775807) : Rd W size (some ⟨g, 0, none⟩) n xs := by
  subst hx
  refine ⟨hn, .inr ⟨_, _, rfl⟩, hs, fun j hj => ?_⟩
  rw [adr_some, Nat.zero_add, h.cell j]
  rw [List.getD_eq_getElem?_getD, Array.getElem?_toList, Array.getElem?_eq_getElem (by simp at hn; omega)]
  rfl
theorem GraphO.rd {w : World} {base : Nat} {v : Value} {N : Int} {E : List (Int × Int)} {W : List (List ByteArray)} (h : GraphO w base v N E W) (h1 : E.length ≤ 9223372036854775807) (h2 : W.length ≤ 9223372036854775807) (h3 : ∀ l ∈ W, l.length ≤ 9223372036854775807) : GraphR w v N E W := by
  obtain ⟨pe, ce, pw, cw, hs, rfl, h5, h6⟩ := h
  exact ⟨pe, _, ce, pw, _, cw, hs, rfl, Rd.of_own h5 h1, own_cap h5, h6.rd h2 h3, own_cap h6.row⟩
abbrev tA : ByteArray := ⟨#[97]⟩
abbrev tB : ByteArray := ⟨#[98]⟩
theorem ab : sLess tA tB = true := by unfold sLess; rw [ByteArray.toList_eq, ByteArray.toList_eq]; rfl
theorem ba : sLess tB tA = false := by unfold sLess; rw [ByteArray.toList_eq, ByteArray.toList_eq]; rfl
theorem aa : sLess tA tA = false := sLess_irrefl _
theorem bb : sLess tB tB = false := sLess_irrefl _
theorem anb : tA ≠ tB := by decide
theorem exS : putAll sLess [tB, tA, tB] = [tA, tB] := by
  unfold putAll
  rw [List.foldl_cons, List.foldl_cons, List.foldl_cons, List.foldl_nil, putL_nil]
  simp only [putL_cons, putL_nil, ab, ba, bb, aa, anb, anb.symm, if_true, if_false, Bool.false_eq_true, reduceIte]
theorem exE : putAll lessE [(1, 0), (0, 1), (1, 0)] = [(0, 1), (1, 0)] := by decide
theorem exE2 : putAll lessE [(0, 1), (1, 0)] = [(0, 1), (1, 0)] := by decide
theorem exC : checkB 2 [(1, 0), (0, 1), (1, 0)] [[], [tB, tA, tB]] = true := by decide
theorem exC2 : checkB 2 [(0, 1), (1, 0)] [[], [tA, tB]] = true := by decide
theorem exC3 : checkB 2 [(0, 2)] [[], []] = false := by decide
theorem exC4 : checkB 2 [] [[]] = false := by decide
theorem exI : isB 2 [(0, 1), (1, 0)] [[], [tA, tB]] = true := by
  unfold isB; rw [exC2]
  have h1 : riseB lessE [(0, 1), (1, 0)] = true := by decide
  have h2 : riseB sLess [tA, tB] = true := by simp [riseB, riseAt, nth, ab]
  have h3 : riseB sLess [] = true := by simp [riseB]
  rw [h1]; simp [h2, h3]
theorem exSame : sameB (normN 2 [(1, 0), (0, 1), (1, 0)] [[], [tB, tA, tB]]) (normE 2 [(1, 0), (0, 1), (1, 0)] [[], [tB, tA, tB]]) (normW 2 [(1, 0), (0, 1), (1, 0)] [[], [tB, tA, tB]]) 2 [(0, 1), (1, 0)] [[], [tA, tB]] = true := by
  unfold sameB normN normE normW
  rw [exC, exE]
  simp only [if_true, List.map_cons, List.map_nil, exS, show putAll sLess [] = [] from rfl]
  simp
theorem exP : placeB 2 [(0, 1), (1, 0)] [[], [tA, tB]] 1 = true := by unfold placeB; rw [exC2]; rfl
theorem exO : degO 2 [(0, 1), (1, 0)] [[], [tA, tB]] 1 = 1 := by unfold degO; rw [exP, exE2]; decide
theorem exIn : degI 2 [(0, 1), (1, 0)] [[], [tA, tB]] 1 = 1 := by unfold degI; rw [exP, exE2]; decide
theorem szAB (W : List (List ByteArray)) (h : ∀ l ∈ W, ∀ s ∈ l, s = tA ∨ s = tB) : SzW W := by
  intro l hl s hs
  rcases h l hl s hs with rfl | rfl <;> decide
theorem exRdW {W : World} {g2 g3 n : Nat} {l : List ByteArray} {t2 t3 : TypeId} (h2 : Blk W g2 t2 (encS l).toArray) (h3 : Blk W g3 t3 #[.slice none 0 0, .slice (some ⟨g2, 0, none⟩) n n]) (hl : l.length = n) (hn : n ≤ 1000) :
    RdW W (some ⟨g3, 0, none⟩) 2 [⟨none, 0, 0⟩, ⟨some ⟨g2, 0, none⟩, n, n⟩] [[], l] := by
  refine ⟨rfl, h3.rd rfl rfl (by decide), fun j hj => ?_⟩
  have : j = 0 ∨ j = 1 := by omega
  rcases this with rfl | rfl
  · exact Rd.nil _ _ _
  · exact h2.rd rfl (by rw [Nat.mul_one]; show (encS l).length = n; rw [encS_len, hl]) (by show n ≤ _; omega)
/-- a graph of the example's edges and texts, made anew -/
theorem exN1 {W : World} {g1 g2 g3 : Nat} {t1 t2 t3 : TypeId} (h1 : Blk W g1 t1 #[.int .i64 1, .int .i64 0, .int .i64 0, .int .i64 1, .int .i64 1, .int .i64 0]) (h2 : Blk W g2 t2 #[.string ⟨#[98]⟩, .string ⟨#[97]⟩, .string ⟨#[98]⟩]) (h3 : Blk W g3 t3 #[.slice none 0 0, .slice (some ⟨g2, 0, none⟩) 3 3]) :
    Calls Try.prog 10 #[.agg #[.int .i64 2, .slice (some ⟨g1, 0, none⟩) 3 3, .slice (some ⟨g3, 0, none⟩) 2 2]] W fun e w' => ∃ q cq qh ch hs', e = .returned (.tuple #[.agg #[.int .i64 2, .slice q 2 cq, .slice qh 2 ch], .int .i64 0]) ∧ Rd w' 2 q 2 (encE [(0, 1), (1, 0)]) ∧ RdW w' qh 2 hs' [[], [tA, tB]] ∧ Ext W w' := by
  refine (NormalG 2 _ 3 3 _ 2 2 [(1, 0), (0, 1), (1, 0)] _ [[], [tB, tA, tB]] W (h1.rd rfl rfl (by decide)) (exRdW h2 h3 rfl (by decide)) (szAB _ (by simp))).mono ?_
  rintro e w' ⟨v, rfl, ho, hx⟩
  unfold normC normN normE normW at *
  rw [exC] at *
  simp only [if_true, exE, List.map_cons, List.map_nil, exS, show putAll sLess [] = [] from rfl] at *
  obtain ⟨q, ne, cq, qh, nw, ch, hs', rfl, h5, _, h6, _⟩ := ho.rd (by decide) (by decide) (by simp)
  have e1 := h5.nE
  have e2 := h6.nW
  simp only [List.length_cons, List.length_nil, Nat.zero_add, Nat.reduceAdd] at e1 e2
  subst e1 e2
  exact ⟨q, cq, qh, ch, hs', rfl, h5, h6, hx⟩
theorem exN3 {W : World} {g1 g3 : Nat} {t1 t3 : TypeId} (h1 : Blk W g1 t1 #[.int .i64 0, .int .i64 2]) (h3 : Blk W g3 t3 #[.slice none 0 0, .slice none 0 0]) :
    Calls Try.prog 10 #[.agg #[.int .i64 2, .slice (some ⟨g1, 0, none⟩) 1 1, .slice (some ⟨g3, 0, none⟩) 2 2]] W fun e w' => e = .returned (.tuple #[.agg #[.int .i64 0, .slice none 0 0, .slice none 0 0], .int .i64 20]) ∧ Ext W w' :=
  NormalG_no 2 _ 1 1 _ 2 2 [(0, 2)] [⟨none, 0, 0⟩, ⟨none, 0, 0⟩] [[], []] W (h1.rd rfl rfl (by decide)) ⟨rfl, h3.rd rfl rfl (by decide), fun j hj => by
    have : j = 0 ∨ j = 1 := by omega
    rcases this with rfl | rfl <;> exact Rd.nil _ _ _⟩ (szAB _ (by simp)) exC3
theorem exN4 {W : World} {g3 : Nat} {t3 : TypeId} (h3 : Blk W g3 t3 #[.slice none 0 0]) :
    Calls Try.prog 10 #[.agg #[.int .i64 2, .slice none 0 0, .slice (some ⟨g3, 0, none⟩) 1 1]] W fun e w' => e = .returned (.tuple #[.agg #[.int .i64 0, .slice none 0 0, .slice none 0 0], .int .i64 20]) ∧ Ext W w' :=
  NormalG_no 2 none 0 0 _ 1 1 [] [⟨none, 0, 0⟩] [[]] W (Rd.nil _ _ _) ⟨rfl, h3.rd rfl rfl (by decide), fun j hj => by
    have : j = 0 := by omega
    subst this; exact Rd.nil _ _ _⟩ (szAB _ (by simp)) exC4
theorem alloc3B (w : World) (c1 c2 c3 : Array Value) (t1 t2 t3 : TypeId) : Blk (((w.alloc (.cells c1 t1)).alloc (.cells c2 t2)).alloc (.cells c3 t3)) w.heap.size t1 c1 ∧ Blk (((w.alloc (.cells c1 t1)).alloc (.cells c2 t2)).alloc (.cells c3 t3)) (w.heap.size + 1) t2 c2 ∧
    Blk (((w.alloc (.cells c1 t1)).alloc (.cells c2 t2)).alloc (.cells c3 t3)) (w.heap.size + 1 + 1) t3 c3 ∧ Ext w (((w.alloc (.cells c1 t1)).alloc (.cells c2 t2)).alloc (.cells c3 t3)) := alloc3 _ _ _ _
theorem alloc2B (w : World) (c1 c2 : Array Value) (t1 t2 : TypeId) : Blk ((w.alloc (.cells c1 t1)).alloc (.cells c2 t2)) w.heap.size t1 c1 ∧ Blk ((w.alloc (.cells c1 t1)).alloc (.cells c2 t2)) (w.heap.size + 1) t2 c2 ∧ Ext w ((w.alloc (.cells c1 t1)).alloc (.cells c2 t2)) := alloc2 _ _ _
theorem exN1w (w : World) : Calls Try.prog 10 #[.agg #[.int .i64 2, .slice (some ⟨w.heap.size, 0, none⟩) 3 3, .slice (some ⟨w.heap.size + 1 + 1, 0, none⟩) 2 2]] (((w.alloc (.cells #[.int .i64 1, .int .i64 0, .int .i64 0, .int .i64 1, .int .i64 1, .int .i64 0] 34)).alloc (.cells #[.string ⟨#[98]⟩, .string ⟨#[97]⟩, .string ⟨#[98]⟩] 9)).alloc (.cells #[.slice none 0 0, .slice (some ⟨w.heap.size + 1, 0, none⟩) 3 3] 35)) fun e w' => ∃ q cq qh ch hs', e = .returned (.tuple #[.agg #[.int .i64 2, .slice q 2 cq, .slice qh 2 ch], .int .i64 0]) ∧ Rd w' 2 q 2 (encE [(0, 1), (1, 0)]) ∧ RdW w' qh 2 hs' [[], [tA, tB]] ∧ Ext w w' := by
  obtain ⟨a1, a2, a3, a4⟩ := alloc3B w #[.int .i64 1, .int .i64 0, .int .i64 0, .int .i64 1, .int .i64 1, .int .i64 0] #[.string ⟨#[98]⟩, .string ⟨#[97]⟩, .string ⟨#[98]⟩] #[.slice none 0 0, .slice (some ⟨w.heap.size + 1, 0, none⟩) 3 3] 34 9 35
  generalize (((w.alloc (.cells #[.int .i64 1, .int .i64 0, .int .i64 0, .int .i64 1, .int .i64 1, .int .i64 0] 34)).alloc (.cells #[.string ⟨#[98]⟩, .string ⟨#[97]⟩, .string ⟨#[98]⟩] 9)).alloc (.cells #[.slice none 0 0, .slice (some ⟨w.heap.size + 1, 0, none⟩) 3 3] 35)) = W at *
  refine (exN1 a1 a2 a3).mono ?_
  rintro e w' ⟨q, cq, qh, ch, hs', h1, h2, h3, h4⟩
  exact ⟨q, cq, qh, ch, hs', h1, h2, h3, Ext.trans a4 h4⟩
theorem exN3w (w : World) : Calls Try.prog 10 #[.agg #[.int .i64 2, .slice (some ⟨w.heap.size, 0, none⟩) 1 1, .slice (some ⟨w.heap.size + 1, 0, none⟩) 2 2]] ((w.alloc (.cells #[.int .i64 0, .int .i64 2] 34)).alloc (.cells #[.slice none 0 0, .slice none 0 0] 35)) fun e w' => e = .returned (.tuple #[.agg #[.int .i64 0, .slice none 0 0, .slice none 0 0], .int .i64 20]) ∧ Ext w w' := by
  obtain ⟨a1, a2, a3⟩ := alloc2B w #[.int .i64 0, .int .i64 2] #[.slice none 0 0, .slice none 0 0] 34 35
  generalize ((w.alloc (.cells #[.int .i64 0, .int .i64 2] 34)).alloc (.cells #[.slice none 0 0, .slice none 0 0] 35)) = W at *
  exact (exN3 a1 a2).mono fun e w' ⟨h1, h2⟩ => ⟨h1, Ext.trans a3 h2⟩
theorem exN4w (w : World) : Calls Try.prog 10 #[.agg #[.int .i64 2, .slice none 0 0, .slice (some ⟨w.heap.size, 0, none⟩) 1 1]] (w.alloc (.cells #[.slice none 0 0] 35)) fun e w' => e = .returned (.tuple #[.agg #[.int .i64 0, .slice none 0 0, .slice none 0 0], .int .i64 20]) ∧ Ext w w' :=
  (exN4 (Blk.new w 35 #[.slice none 0 0])).mono fun e w' ⟨h1, h2⟩ => ⟨h1, Ext.trans ((Below.refl _ _).alloc (Nat.le_refl _) _) h2⟩
theorem wantX (w : World) (q : Option Addr) (cq : Nat) (qh : Option Addr) (ch : Nat) :
    (((((w.alloc (.cells #[.int .i64 2, .slice q 2 cq, .slice qh 2 ch] 25)).alloc (.cells #[.int .i64 0, .int .i64 1, .int .i64 1, .int .i64 0] 34)).alloc (.cells #[.string ⟨#[97]⟩, .string ⟨#[98]⟩] 9)).alloc (.cells #[.slice none 0 0, .slice (some ⟨w.heap.size + 1 + 1, 0, none⟩) 2 2] 35)).alloc (.cells #[.int .i64 2, .slice (some ⟨w.heap.size + 1, 0, none⟩) 2 2, .slice (some ⟨w.heap.size + 1 + 1 + 1, 0, none⟩) 2 2] 25)).heap.size = w.heap.size + 1 + 1 + 1 + 1 + 1 ∧ Blk (((((w.alloc (.cells #[.int .i64 2, .slice q 2 cq, .slice qh 2 ch] 25)).alloc (.cells #[.int .i64 0, .int .i64 1, .int .i64 1, .int .i64 0] 34)).alloc (.cells #[.string ⟨#[97]⟩, .string ⟨#[98]⟩] 9)).alloc (.cells #[.slice none 0 0, .slice (some ⟨w.heap.size + 1 + 1, 0, none⟩) 2 2] 35)).alloc (.cells #[.int .i64 2, .slice (some ⟨w.heap.size + 1, 0, none⟩) 2 2, .slice (some ⟨w.heap.size + 1 + 1 + 1, 0, none⟩) 2 2] 25)) w.heap.size 25 #[.int .i64 2, .slice q 2 cq, .slice qh 2 ch] ∧ Blk (((((w.alloc (.cells #[.int .i64 2, .slice q 2 cq, .slice qh 2 ch] 25)).alloc (.cells #[.int .i64 0, .int .i64 1, .int .i64 1, .int .i64 0] 34)).alloc (.cells #[.string ⟨#[97]⟩, .string ⟨#[98]⟩] 9)).alloc (.cells #[.slice none 0 0, .slice (some ⟨w.heap.size + 1 + 1, 0, none⟩) 2 2] 35)).alloc (.cells #[.int .i64 2, .slice (some ⟨w.heap.size + 1, 0, none⟩) 2 2, .slice (some ⟨w.heap.size + 1 + 1 + 1, 0, none⟩) 2 2] 25)) (w.heap.size + 1) 34 #[.int .i64 0, .int .i64 1, .int .i64 1, .int .i64 0] ∧ Blk (((((w.alloc (.cells #[.int .i64 2, .slice q 2 cq, .slice qh 2 ch] 25)).alloc (.cells #[.int .i64 0, .int .i64 1, .int .i64 1, .int .i64 0] 34)).alloc (.cells #[.string ⟨#[97]⟩, .string ⟨#[98]⟩] 9)).alloc (.cells #[.slice none 0 0, .slice (some ⟨w.heap.size + 1 + 1, 0, none⟩) 2 2] 35)).alloc (.cells #[.int .i64 2, .slice (some ⟨w.heap.size + 1, 0, none⟩) 2 2, .slice (some ⟨w.heap.size + 1 + 1 + 1, 0, none⟩) 2 2] 25)) (w.heap.size + 1 + 1) 9 #[.string ⟨#[97]⟩, .string ⟨#[98]⟩] ∧ Blk (((((w.alloc (.cells #[.int .i64 2, .slice q 2 cq, .slice qh 2 ch] 25)).alloc (.cells #[.int .i64 0, .int .i64 1, .int .i64 1, .int .i64 0] 34)).alloc (.cells #[.string ⟨#[97]⟩, .string ⟨#[98]⟩] 9)).alloc (.cells #[.slice none 0 0, .slice (some ⟨w.heap.size + 1 + 1, 0, none⟩) 2 2] 35)).alloc (.cells #[.int .i64 2, .slice (some ⟨w.heap.size + 1, 0, none⟩) 2 2, .slice (some ⟨w.heap.size + 1 + 1 + 1, 0, none⟩) 2 2] 25)) (w.heap.size + 1 + 1 + 1) 35 #[.slice none 0 0, .slice (some ⟨w.heap.size + 1 + 1, 0, none⟩) 2 2] ∧ Blk (((((w.alloc (.cells #[.int .i64 2, .slice q 2 cq, .slice qh 2 ch] 25)).alloc (.cells #[.int .i64 0, .int .i64 1, .int .i64 1, .int .i64 0] 34)).alloc (.cells #[.string ⟨#[97]⟩, .string ⟨#[98]⟩] 9)).alloc (.cells #[.slice none 0 0, .slice (some ⟨w.heap.size + 1 + 1, 0, none⟩) 2 2] 35)).alloc (.cells #[.int .i64 2, .slice (some ⟨w.heap.size + 1, 0, none⟩) 2 2, .slice (some ⟨w.heap.size + 1 + 1 + 1, 0, none⟩) 2 2] 25)) (w.heap.size + 1 + 1 + 1 + 1) 25 #[.int .i64 2, .slice (some ⟨w.heap.size + 1, 0, none⟩) 2 2, .slice (some ⟨w.heap.size + 1 + 1 + 1, 0, none⟩) 2 2] ∧ Ext w (((((w.alloc (.cells #[.int .i64 2, .slice q 2 cq, .slice qh 2 ch] 25)).alloc (.cells #[.int .i64 0, .int .i64 1, .int .i64 1, .int .i64 0] 34)).alloc (.cells #[.string ⟨#[97]⟩, .string ⟨#[98]⟩] 9)).alloc (.cells #[.slice none 0 0, .slice (some ⟨w.heap.size + 1 + 1, 0, none⟩) 2 2] 35)).alloc (.cells #[.int .i64 2, .slice (some ⟨w.heap.size + 1, 0, none⟩) 2 2, .slice (some ⟨w.heap.size + 1 + 1 + 1, 0, none⟩) 2 2] 25)) := by
  have b1 : ∀ (W : World) (t : TypeId) (c : Array Value) (n : Nat), W.heap.size = n → Blk (W.alloc (.cells c t)) n t c := fun W t c n h => by subst h; exact Blk.new W t c
  refine ⟨by simp only [World.size_alloc], ?_, ?_, ?_, ?_, ?_, ?_⟩
  · exact ((((b1 _ _ _ _ rfl).alloc _).alloc _).alloc _).alloc _
  · exact (((b1 _ _ _ _ (by simp only [World.size_alloc])).alloc _).alloc _).alloc _
  · exact ((b1 _ _ _ _ (by simp only [World.size_alloc])).alloc _).alloc _
  · exact (b1 _ _ _ _ (by simp only [World.size_alloc])).alloc _
  · exact b1 _ _ _ _ (by simp only [World.size_alloc])
  · exact Ext.alloc (Ext.alloc (Ext.alloc (Ext.alloc (Ext.alloc (Below.refl _ _) _) _) _) _) _
/-- what is known from then on -/
structure ExW (b : Nat) (q : Option Addr) (cq : Nat) (qh : Option Addr) (ch : Nat) (hs : List Hd) (W : World) : Prop where
  lt : b + 1 + 1 + 1 + 1 < W.heap.size
  ba : Blk W b 25 #[.int .i64 2, .slice q 2 cq, .slice qh 2 ch]
  bw : Blk W (b + 1 + 1 + 1 + 1) 25 #[.int .i64 2, .slice (some ⟨b + 1, 0, none⟩) 2 2, .slice (some ⟨b + 1 + 1 + 1, 0, none⟩) 2 2]
  ra : Rd W 2 q 2 (encE [(0, 1), (1, 0)])
  rw : RdW W qh 2 hs [[], [tA, tB]]
  ra2 : Rd W 2 (some ⟨b + 1, 0, none⟩) 2 (encE [(0, 1), (1, 0)])
  rw2 : RdW W (some ⟨b + 1 + 1 + 1, 0, none⟩) 2 [⟨none, 0, 0⟩, ⟨some ⟨b + 1 + 1, 0, none⟩, 2, 2⟩] [[], [tA, tB]]
theorem ExW.ext {b : Nat} {q : Option Addr} {cq : Nat} {qh : Option Addr} {ch : Nat} {hs : List Hd} {W W' : World} (h : ExW b q cq qh ch hs W) (he : Ext W W') : ExW b q cq qh ch hs W' :=
  ⟨Nat.lt_of_lt_of_le h.lt he.size, h.ba.ext he, h.bw.ext he, h.ra.ext he, h.rw.ext he, h.ra2.ext he, h.rw2.ext he⟩
theorem exW (w1 : World) (q : Option Addr) (cq : Nat) (qh : Option Addr) (ch : Nat) (hs : List Hd) (X : World) (hX : X = (((((w1.alloc (.cells #[.int .i64 2, .slice q 2 cq, .slice qh 2 ch] 25)).alloc (.cells #[.int .i64 0, .int .i64 1, .int .i64 1, .int .i64 0] 34)).alloc (.cells #[.string ⟨#[97]⟩, .string ⟨#[98]⟩] 9)).alloc (.cells #[.slice none 0 0, .slice (some ⟨w1.heap.size + 1 + 1, 0, none⟩) 2 2] 35)).alloc (.cells #[.int .i64 2, .slice (some ⟨w1.heap.size + 1, 0, none⟩) 2 2, .slice (some ⟨w1.heap.size + 1 + 1 + 1, 0, none⟩) 2 2] 25))) (ra : Rd w1 2 q 2 (encE [(0, 1), (1, 0)])) (rw : RdW w1 qh 2 hs [[], [tA, tB]]) :
    X.heap.size = w1.heap.size + 1 + 1 + 1 + 1 + 1 ∧ ExW w1.heap.size q cq qh ch hs X ∧ Ext w1 X := by
  subst hX
  obtain ⟨h0, h1, h2, h3, h4, h5, h6⟩ := wantX w1 q cq qh ch
  generalize (((((w1.alloc (.cells #[.int .i64 2, .slice q 2 cq, .slice qh 2 ch] 25)).alloc (.cells #[.int .i64 0, .int .i64 1, .int .i64 1, .int .i64 0] 34)).alloc (.cells #[.string ⟨#[97]⟩, .string ⟨#[98]⟩] 9)).alloc (.cells #[.slice none 0 0, .slice (some ⟨w1.heap.size + 1 + 1, 0, none⟩) 2 2] 35)).alloc (.cells #[.int .i64 2, .slice (some ⟨w1.heap.size + 1, 0, none⟩) 2 2, .slice (some ⟨w1.heap.size + 1 + 1 + 1, 0, none⟩) 2 2] 25)) = X at *
  exact ⟨h0, ⟨by omega, h1, h5, ra.ext h6, rw.ext h6, h2.rd rfl rfl (by decide), exRdW h3 h4 rfl (by decide)⟩, h6⟩
theorem exD (W : World) {b : Nat} {q : Option Addr} {cq : Nat} {qh : Option Addr} {ch : Nat} {hs : List Hd} (h : ExW b q cq qh ch hs W) : Calls Try.prog 20 #[.agg #[.int .i64 2, .slice (some ⟨b + 1, 0, none⟩) 2 2, .slice (some ⟨b + 1 + 1 + 1, 0, none⟩) 2 2], .int .i64 1] W fun e w' => e = .returned (.tuple #[.int .i64 1, .int .i64 1, .bool true]) ∧ Ext W w' := by
  have := DegreesG 2 _ 2 2 _ 2 2 [(0, 1), (1, 0)] _ [[], [tA, tB]] W 1 h.ra2 h.rw2 (szAB _ (by simp))
  rw [exO, exIn, exP] at this
  exact this
theorem exSm (W : World) {b : Nat} {q : Option Addr} {cq : Nat} {qh : Option Addr} {ch : Nat} {hs : List Hd} (h : ExW b q cq qh ch hs W) : Calls Try.prog 12 #[.agg #[.int .i64 2, .slice q 2 cq, .slice qh 2 ch], .agg #[.int .i64 2, .slice (some ⟨b + 1, 0, none⟩) 2 2, .slice (some ⟨b + 1 + 1 + 1, 0, none⟩) 2 2]] W fun e w' => e = .returned (.bool true) ∧ Ext W w' := by
  have := Same02 2 _ 2 cq _ 2 ch [(0, 1), (1, 0)] _ [[], [tA, tB]] 2 _ 2 2 _ 2 2 [(0, 1), (1, 0)] _ [[], [tA, tB]] W h.ra h.rw h.ra2 h.rw2
  unfold sameB at this
  simp only [and_self, decide_true] at this
  exact this
theorem exIs (W : World) {b : Nat} {q : Option Addr} {cq : Nat} {qh : Option Addr} {ch : Nat} {hs : List Hd} (h : ExW b q cq qh ch hs W) : Calls Try.prog 15 #[.agg #[.int .i64 2, .slice (some ⟨b + 1, 0, none⟩) 2 2, .slice (some ⟨b + 1 + 1 + 1, 0, none⟩) 2 2]] W fun e w' => e = .returned (.bool true) ∧ Ext W w' := by
  have := IsG 2 _ 2 2 _ 2 2 [(0, 1), (1, 0)] _ [[], [tA, tB]] W h.ra2 h.rw2 (szAB _ (by simp))
  rw [exI] at this
  exact this
theorem exWab (W : World) : Calls Try.prog 17 #[.string ⟨#[97, 98]⟩] W fun e w' => e = .returned (.bool true) ∧ W = w' := by
  have := WordG ⟨#[97, 98]⟩ W (by decide)
  rw [show wordB ⟨#[97, 98]⟩ = true from by decide] at this
  exact this
theorem exWA (W : World) : Calls Try.prog 17 #[.string ⟨#[65]⟩] W fun e w' => e = .returned (.bool false) ∧ W = w' := by
  have := WordG ⟨#[65]⟩ W (by decide)
  rw [show wordB ⟨#[65]⟩ = false from by decide] at this
  exact this
set_option maxRecDepth 100000 in
set_option maxHeartbeats 8000000 in
theorem Graphs (w : World) : Calls Try.prog 19 #[] w fun e w' => e = .returned (.bool true) ∧ Ext w w' := by
  go_enter Try.func19, Try.ntmps19
  go_wp2_with (first
    | (go_at_call 15; have _t := F5; go_must (refine Calls.mono (exIs _ F5.out) ?_; rintro e w6 ⟨rfl, hb⟩; have B6 := Lib.hid (Ext.trans B5.out hb); clear hb))
    | (go_at_call 17; have _t := D1; go_must (refine Calls.mono (exWA _) ?_; rintro e w7 ⟨rfl, rfl⟩))
    | (go_at_call 17; have _t := B6; go_must (refine Calls.mono (exWab _) ?_; rintro e w7 ⟨rfl, rfl⟩; have D1 := Nat.zero_le 0))
    | (go_at_call 12; have _t := F4; go_must (refine Calls.mono (exSm _ F4.out) ?_; rintro e w5 ⟨rfl, hb⟩; have F5 := Lib.hid (F4.out.ext hb); have B5 := Lib.hid (Ext.trans B4.out hb); clear hb c0 c1 c2 d0 d1 d2 lt lt2; have c0 := F5.out.ba.cell 0; have c1 := F5.out.ba.cell 1; have c2 := F5.out.ba.cell 2; have d0 := F5.out.bw.cell 0; have d1 := F5.out.bw.cell 1; have d2 := F5.out.bw.cell 2; have lt := F5.out.lt; have lt2 := Nat.lt_of_succ_lt (Nat.lt_of_succ_lt (Nat.lt_of_succ_lt (Nat.lt_of_succ_lt lt)))))
    | (go_at_call 20; have _t := F3; go_must (refine Calls.mono (exD _ (F3.out.ext (Ext.alloc (Below.refl _ _) _))) ?_; rintro e w4 ⟨rfl, hb⟩; have F4 := Lib.hid (F3.out.ext (Ext.trans (Ext.alloc (Below.refl _ _) _) hb)); have B4 := Lib.hid (Ext.trans B3.out (Ext.trans (Ext.alloc (Below.refl _ _) _) hb)); clear hb c0 c1 c2 d0 d1 d2 lt lt2; have c0 := F4.out.ba.cell 0; have c1 := F4.out.ba.cell 1; have c2 := F4.out.ba.cell 2; have d0 := F4.out.bw.cell 0; have d1 := F4.out.bw.cell 1; have d2 := F4.out.bw.cell 2; have lt := F4.out.lt; have lt2 := Nat.lt_of_succ_lt (Nat.lt_of_succ_lt (Nat.lt_of_succ_lt (Nat.lt_of_succ_lt lt)))))
    | (go_at_call 10; have _t := F2; go_must (obtain ⟨Y, hY⟩ : ∃ Y, Y = w2.alloc (.cells #[.int .i64 0, .slice none 0 0, .slice none 0 0] 25) := ⟨_, rfl⟩; have hs : Y.heap.size = w2.heap.size + 1 := (by rw [hY, World.size_alloc]); have hy : Ext w2 Y := (by rw [hY]; exact Ext.alloc (Below.refl _ _) _); rw [← hY, ← hs]; refine Calls.mono (exN4w Y) ?_; rintro e w3 ⟨rfl, hb⟩; have F3 := Lib.hid (F2.out.ext (Ext.trans hy hb)); have B3 := Lib.hid (Ext.trans B2.out (Ext.trans hy hb)); clear hb hy hs; have c0 := F3.out.ba.cell 0; have c1 := F3.out.ba.cell 1; have c2 := F3.out.ba.cell 2; have d0 := F3.out.bw.cell 0; have d1 := F3.out.bw.cell 1; have d2 := F3.out.bw.cell 2; have lt := F3.out.lt; have lt2 := Nat.lt_of_succ_lt (Nat.lt_of_succ_lt (Nat.lt_of_succ_lt (Nat.lt_of_succ_lt lt)))))
    | (go_at_call 10; have _t := B1; go_must (obtain ⟨X, hX⟩ : ∃ X, X = (((((w1.alloc (.cells #[.int .i64 2, .slice q 2 cq, .slice qh 2 ch] 25)).alloc (.cells #[.int .i64 0, .int .i64 1, .int .i64 1, .int .i64 0] 34)).alloc (.cells #[.string ⟨#[97]⟩, .string ⟨#[98]⟩] 9)).alloc (.cells #[.slice none 0 0, .slice (some ⟨w1.heap.size + 1 + 1, 0, none⟩) 2 2] 35)).alloc (.cells #[.int .i64 2, .slice (some ⟨w1.heap.size + 1, 0, none⟩) 2 2, .slice (some ⟨w1.heap.size + 1 + 1 + 1, 0, none⟩) 2 2] 25)) := ⟨_, rfl⟩; obtain ⟨hs, hf, hx⟩ := exW w1 q cq qh ch hs' X hX RA.out RW.out; rw [← hX, ← hs]; clear hX; refine Calls.mono (exN3w X) ?_; rintro e w2 ⟨rfl, hb⟩; have F2 := Lib.hid (hf.ext hb); have B2 := Lib.hid (Ext.trans B1.out (Ext.trans hx hb)); clear hb hx hs hf))
    | (go_at_call 10; go_must (refine Calls.mono (exN1w w) ?_; rintro e w1 ⟨q, cq, qh, ch, hs', rfl, ra, rw, hb1⟩; have B1 := Lib.hid hb1; have RA := Lib.hid ra; have RW := Lib.hid rw; clear ra rw hb1)))
  go_ret
  exact ⟨rfl, B6.out⟩
end Go.Proofs.Ytlkngeflikecgaa
