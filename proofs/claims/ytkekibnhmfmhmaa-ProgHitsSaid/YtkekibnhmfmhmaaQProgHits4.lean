/- Texts of this claim, one behind the other: Pg7, Hn1, Hn2, Hn3, HnM, Hn4, Hn5, Hn6, NewAt, Nr1, Dst8a, Lv7a, RngA, Has4, PlainQ, PlainP9, Dst8b, Lv7b, Lv7c, Rep7, Lv7d, Nr2, Nr3, Open, Open5, OpenQ, LHits18, Post. -/
import Derived.RangeFuncNested
import Derived.Shelf.Bits.Mul64
import Derived.Laws.CopyOwn
import Derived.StillTailTactics
import Derived.Deep.RegionWith
import Derived.Deep.LoopGhost
import Derived.ProofKit
import Derived.Deep.Slices
import Derived.Deep.Fields
import Derived.ChangeSame
import Derived.Lib.SmallJoins
import Derived.Below
import Derived.IntWalk
import Derived.Carry
import Derived.OpenShut
import Derived.Test.YtkekibnhmfmhmaaProg
import Derived.Test.YtkekibnhmfmhmaaQProgHits3
/- Chapter 18: is a query of the kind 3 done, or one of no kind (the program's Done). -/
namespace Go.Proofs.Ytkekibnhmfmhmaa
open Go Go.RowKit
set_option maxRecDepth 100000 in
set_option maxHeartbeats 4000000 in
theorem Done3 (f t : Int) (pw : Option Addr) (nw cw : Nat) (ws : List ByteArray) (rad most : Int) (pp : Option Addr) (np cp : Nat) (hs : List Hd) (L : List Po) (p : Option Addr) (n c : Nat) (l : List Sq) (pm : Option Addr) (nm cm : Nat) (w : World) (hL : RdP w pp np hs L) (hok : PoOk L) (hw : Rd w 1 pw nw (encS ws)) (hcw : nw ≤ cw) (hnw : nw ≤ 100) (hl : Rd w 4 p n (encQ l)) (hn : n ≤ 1000) (hm : nm = 0) :
    Calls Try.prog 14 #[.agg #[.int .i64 3, .int .i64 f, .int .i64 t, .slice pw nw cw, .int .i64 rad, .int .i64 most], .slice pp np cp, .slice p n c, .slice pm nm cm] w fun e w' => ∃ q c', e = .returned (.tuple #[.agg #[.bool (decide (0 < (nearS l (allX L ws) most).length)), .int .i64 0, .slice q (nearS l (allX L ws) most).length c'], .bool true]) ∧ Sep w w' [.own 48 2 q (nearS l (allX L ws) most).length c' (encE (nearS l (allX L ws) most))] := by
  have S0 := Lib.hid ((((Sep.start w).al #[.int .i64 3, .int .i64 f, .int .i64 t, .slice pw nw cw, .int .i64 rad, .int .i64 most] 24 w.heap.size rfl).al #[.slice pm nm cm] 29 (w.heap.size + 1) (by simp)).al #[.bool false, .int .i64 0, .slice none 0 0] 38 (w.heap.size + 1 + 1) (by simp))
  have HH := Lib.hid (fun W (h : Ext w W) => HitsG 3 f t pw nw cw ws rad most pp np cp hs L p n c l W (hL.ext h) hok (hw.ext h) hcw hnw (hl.ext h) hn)
  clear hL hok hw hl
  generalize nearS l (allX L ws) most = F at *
  subst hm
  go_enter Try.func14, Try.ntmps14
  go_wp2_with (go_at_call 32; go_must (refine (HH.out _ S0.out.ext).mono ?_; rintro e w1 ⟨q, d, rfl, Z⟩; have S1 := Lib.hid (S0.out.comp Z); clear Z; have b0 := (S1.out.blk 1 rfl).cell 0; have b1 := (S1.out.blk 1 rfl).cell 1; have b2 := (S1.out.blk 1 rfl).cell 2; have bz := (S1.out.blk 1 rfl).lt; have f0 := (S1.out.blk 1 rfl).frozen 0; have f1 := (S1.out.blk 1 rfl).frozen 1; have f2 := (S1.out.blk 1 rfl).frozen 2))
  have S9 := Lib.hid (((S1.out.set 1 rfl 0 (.bool (decide (0 < F.length)))).set 1 rfl 1 (.int .i64 0)).set 1 rfl 2 (.slice q F.length d))
  have x0 := (S9.out.blk 1 rfl).cell 0
  have x1 := (S9.out.blk 1 rfl).cell 1
  have x2 := (S9.out.blk 1 rfl).cell 2
  exact bodyPost_ret (v := .tuple #[.agg #[.bool (decide (0 < F.length)), .int .i64 0, .slice q F.length d], .bool true]) (by simp [results, Try.results14, go_sem, x0, x1, x2, Try.sizeOf38, Try.isAgg38]) rfl ⟨q, d, rfl, S9.out.pick [0] (by decide) rfl⟩
set_option maxRecDepth 100000 in
set_option maxHeartbeats 4000000 in
theorem Done3m (f t : Int) (pw : Option Addr) (nw cw : Nat) (rad most : Int) (pp : Option Addr) (np cp : Nat) (p : Option Addr) (n c : Nat) (pm : Option Addr) (nm cm : Nat) (w : World) (hm : 0 < nm) :
    Calls Try.prog 14 #[.agg #[.int .i64 3, .int .i64 f, .int .i64 t, .slice pw nw cw, .int .i64 rad, .int .i64 most], .slice pp np cp, .slice p n c, .slice pm nm cm] w fun e w' => e = .returned (.tuple #[.agg #[.bool false, .int .i64 0, .slice none 0 0], .bool false]) ∧ Ext w w' := by
  have S0 := Lib.hid ((((Sep.start w).al #[.int .i64 3, .int .i64 f, .int .i64 t, .slice pw nw cw, .int .i64 rad, .int .i64 most] 24 w.heap.size rfl).al #[.slice pm nm cm] 29 (w.heap.size + 1) (by simp)).al #[.bool false, .int .i64 0, .slice none 0 0] 38 (w.heap.size + 1 + 1) (by simp))
  have e1 : decide ((0:Int) < (nm:Int)) = true := by simp; omega
  go_enter Try.func14, Try.ntmps14
  go_wp2
  have S9 := Lib.hid (((S0.out.set 0 rfl 0 (.bool false)).set 0 rfl 1 (.int .i64 0)).set 0 rfl 2 (.slice none 0 0))
  exact bodyPost_ret (v := .tuple #[.agg #[.bool false, .int .i64 0, .slice none 0 0], .bool false]) (by simp [results, Try.results14, go_sem, Try.sizeOf38, Try.isAgg38]) rfl ⟨rfl, S0.out.ext⟩
set_option maxRecDepth 100000 in
set_option maxHeartbeats 4000000 in
theorem Done0 (k f t : Int) (pw : Option Addr) (nw cw : Nat) (rad most : Int) (pp : Option Addr) (np cp : Nat) (p : Option Addr) (n c : Nat) (pm : Option Addr) (nm cm : Nat) (w : World) (h1 : k ≠ 1) (h2 : k ≠ 2) (h3 : k ≠ 3) :
    Calls Try.prog 14 #[.agg #[.int .i64 k, .int .i64 f, .int .i64 t, .slice pw nw cw, .int .i64 rad, .int .i64 most], .slice pp np cp, .slice p n c, .slice pm nm cm] w fun e w' => e = .returned (.tuple #[.agg #[.bool false, .int .i64 0, .slice none 0 0], .bool true]) ∧ Ext w w' := by
  have S0 := Lib.hid ((((Sep.start w).al #[.int .i64 k, .int .i64 f, .int .i64 t, .slice pw nw cw, .int .i64 rad, .int .i64 most] 24 w.heap.size rfl).al #[.slice pm nm cm] 29 (w.heap.size + 1) (by simp)).al #[.bool false, .int .i64 0, .slice none 0 0] 38 (w.heap.size + 1 + 1) (by simp))
  have e1 : (k == 1) = false := by simpa using h1
  have e2 : (k == 2) = false := by simpa using h2
  have e3 : (k == 3) = false := by simpa using h3
  clear h1 h2 h3
  go_enter Try.func14, Try.ntmps14
  go_wp2
  exact bodyPost_ret (v := .tuple #[.agg #[.bool false, .int .i64 0, .slice none 0 0], .bool true]) (by simp [results, Try.results14, go_sem, Try.sizeOf38, Try.isAgg38]) rfl ⟨rfl, S0.out.ext⟩
end Go.Proofs.Ytkekibnhmfmhmaa
/- The heap of near.hits (written by genhp.py out of Hp1). -/
namespace Go.Proofs.Ytkekibnhmfmhmaa
open Go Go.RowKit
end Go.Proofs.Ytkekibnhmfmhmaa
/- The heap of near.hits (written by genhp.py out of Hp2). -/
namespace Go.Proofs.Ytkekibnhmfmhmaa
open Go Go.RowKit
end Go.Proofs.Ytkekibnhmfmhmaa
/- The heap of near.hits (written by genhp.py out of Hp3). -/
namespace Go.Proofs.Ytkekibnhmfmhmaa
open Go Go.RowKit
attribute [local go_sem] Oper.semAt_some
/-- what is put onto the heap -/
def nplV (x : Int × Int) : Value := .iface 48 (.agg #[.int .i64 x.1, .int .i64 x.2])
theorem ntaPlace (a b : Int) (W : World) : (Instr.typeAssert (.iface 48 (.agg #[.int .i64 a, .int .i64 b])) 20 48 true).run Try.prog W = .ok (.tuple #[.agg #[.int .i64 a, .int .i64 b], .bool true]) W := by kernel_rfl
theorem ninfPla : ((Try.prog).info? 48).map (fun i => (i.zero, i.size, i.bytes)) = some (some (.agg #[.int .i64 0, .int .i64 0]), 2, 16) := by kernel_rfl
end Go.Proofs.Ytkekibnhmfmhmaa
/- The heap of near.hits (written by genhp.py out of HpM). -/
namespace Go.Proofs.Ytkekibnhmfmhmaa
open Go Go.RowKit
end Go.Proofs.Ytkekibnhmfmhmaa
/- The heap of near.hits (written by genhp.py out of Hp4). -/
namespace Go.Proofs.Ytkekibnhmfmhmaa
open Go Go.RowKit
attribute [local go_sem] Oper.semAt_some
end Go.Proofs.Ytkekibnhmfmhmaa
/- The heap of near.hits (written by genhp.py out of Hp5). -/
namespace Go.Proofs.Ytkekibnhmfmhmaa
open Go Go.RowKit
attribute [local go_sem] Oper.semAt_some
end Go.Proofs.Ytkekibnhmfmhmaa
/- The heap of near.hits (written by genhp.py out of Hp6). -/
namespace Go.Proofs.Ytkekibnhmfmhmaa
open Go Go.RowKit
attribute [local go_sem] Oper.semAt_some
theorem nheap_snoc {n : Nat} {X : List (Int × Int)} {x : Int × Int} (hn : n = X.length) (h : HeapN ltN n X) : UpH ltN (n + 1) n (X ++ [x]) := by
  refine up_start fun i h0 h1 => ?_
  rw [nth_append_left _ _ _ (by omega), nth_append_left _ _ _ (by omega)]
  exact h i h0 h1
end Go.Proofs.Ytkekibnhmfmhmaa
/- A new row, where it lies. -/
namespace Go.Proofs.Ytkekibnhmfmhmaa
open Go Go.RowKit
theorem Rd.newAt (w : World) (t : TypeId) (cs : List Value) (n size g : Nat) (hg : w.heap.size = g) (h : cs.length = n * size) (hn : n ≤ 9223372036854775807) : Rd (w.alloc (.cells cs.toArray t)) size (some ⟨g, 0, none⟩) n cs := by
  subst hg; exact Rd.new w t cs n size h hn
end Go.Proofs.Ytkekibnhmfmhmaa
/- The program's hits (chapter 9): gathered. -/
namespace Go.Proofs.Ytkekibnhmfmhmaa
open Go Go.RowKit
attribute [local go_sem] Oper.semAt_some
def lenN : Value → Nat
  | .slice _ n _ => n
  | _ => 0
theorem infNr : ((Try.prog).info? 48).map (fun i => (i.zero, i.size, i.bytes)) = some (some (.agg #[.int .i64 0, .int .i64 0]), 2, 16) := by kernel_rfl
end Go.Proofs.Ytkekibnhmfmhmaa
/- The program's searches (chapter 8): a place's next ones; a side that begins. -/
namespace Go.Proofs.Ytkekibnhmfmhmaa
open Go Go.RowKit
end Go.Proofs.Ytkekibnhmfmhmaa
/- The program's levels (chapter 7): ways, in a direction; open. -/
namespace Go.Proofs.Ytkekibnhmfmhmaa
open Go Go.RowKit
/-- the error of rows and of places -/
def openC (ck : Bool) (O : List Int) (l : List Int) : Int := if ck = true then (if l.all (fun x => decide (0 ≤ x) && decide (x < (O.length : Int) - 1)) = true then 0 else 1) else 40
end Go.Proofs.Ytkekibnhmfmhmaa
/- A range over a function whose yields point to memory: what is yielded is told with a relation of the value and the world. -/
namespace Go.Proofs.Ytkekibnhmfmhmaa
open Go Go.RowKit
/-- what speaks of no more than what lies below B -/
def FarFrom {β : Type} (B : Nat) (I : β → World → Prop) : Prop :=
  ∀ s Z W W', B ≤ Z.heap.size → Below B Z W → Below B Z W' → I s W → I s W'
theorem FarFrom.below {β : Type} {B : Nat} {I : β → World → Prop} (h : FarFrom B I) {s : β} {W W' : World} (hB : B ≤ W.heap.size) (hb : Below B W W') (hs : I s W) : I s W' := h s W W W' hB (Below.refl _ _) hb hs
theorem FarFrom.putObj {β : Type} {B : Nat} {I : β → World → Prop} (h : FarFrom B I) {s : β} {W : World} {l : Nat} {o : Obj} (o' : Obj) (hs : I s W) (hB : B ≤ l) (hl : W.heap[l]? = some o) : I s (W.putObj l o') :=
  h.below (by have := (Array.getElem?_eq_some_iff.1 hl).1; omega) ((Below.refl B W).grown (grownBy_putObj' W l o') (by have := (Array.getElem?_eq_some_iff.1 hl).1; omega) (fun k e => by cases e; exact hB)) hs
/-- an iterator's contract: each yield comes with A of the value and the world; the iterator may write what it has made -/
def SeqA {α : Type} (F : Fence) (n : Nat) (P : Program) (g : Nat) (lb : Array Value) (encs : α → Array Value) (A : α → World → Prop) (Kp : World → World → Prop) (S Sp : List α → Prop) (N : Nat) (w : World) : Prop :=
  ∀ (l : Nat) (J Jx : List α → World → Prop) (W : World), Below w.heap.size w W → FarFrom W.heap.size J → FarFrom W.heap.size Jx →
    (∀ pre x V, J pre V → A x V → pre.length < N → YieldAt F (n - 1) P l (encs x) V fun e V' =>
      (e = .returned (.bool true) ∧ J (pre ++ [x]) V' ∧ Kp V V') ∨ (e = .returned (.bool false) ∧ Jx (pre ++ [x]) V')) →
    J [] W → CallsIn F n P g (#[.func (.yield l) #[] #[]] ++ lb) W fun e V => (∃ v, e = .returned v) ∧ ((∃ xs, S xs ∧ J xs V) ∨ (∃ pre, Sp pre ∧ Jx pre V))
section
variable {F : Fence} {n : Nat} {P : Program} {w : World}
theorem wpIn_rangeFunc_told {α : Type} {g : Operand} {ps : Array Tmp} {assign body : Code} {Q : Exit → Act → World → Prop} {a : Act}
    (hro : F.round = none) (h1 : 1 ≤ n) {gf : Nat} {lb : Array Value} (hg : a.eval g = .func (.func gf) #[] lb) (hF : F.fn gf) (eg : ∀ args w, (callFunc gf args).run P w = .ok (.enter gf args) w)
    {encs : α → Array Value} {A : α → World → Prop} {Kp : World → World → Prop} {S Sp : List α → Prop} {N : Nat} {w0 : World} (hseq : SeqA F (n - 1) P gf lb encs A Kp S Sp N w0)
    (hKt : ∀ {X Y Z : World}, Kp X Y → Kp Y Z → Kp X Z) (hKb : ∀ (W : World) (l : Nat) (o o' : Obj), w.heap.size ≤ l → W.heap[l]? = some o → o.isCells = false → o.isWalk = false → Kp W (W.putObj l o')) (hb0 : Below w0.heap.size w0 w) (hps : ∀ x, (encs x).size = ps.size)
    (I : List α → World → Prop) (Ix : Code → List α → World → Prop) (hI : FarFrom w.heap.size I) (hIx : ∀ c, FarFrom w.heap.size (Ix c)) (hA : OwnFrom w.heap.size A) (h0 : I [] w) (a₁ : α → Act)
    (hassign : ∀ (l : Nat) (x : α) (W : World) (K : Act → World → Prop), K (a₁ x) W →
      assign.wpIn (F.inRound l) (n - 1 - 1) P (Exit.then K (fun _ _ _ => False)) { tmps := (ps.zip (encs x)).foldl (fun t (p, v) => t.setIfInBounds p v) a.tmps, defers := [] } W)
    (hbody : ∀ (l : Nat) (pre : List α) (x : α) (W : World), I pre W → A x W → pre.length < N → body.wpIn (F.inRound l) (n - 1 - 1) P (ownPostG w.heap.size Kp I Ix (pre ++ [x]) W) (a₁ x) W)
    (hdone : ∀ (D : Nat) (xs : List α) (W : World), w.heap.size ≤ D → S xs → I xs W → W.heap[D]? = some (.deferred (some [])) → Q .normal { a with defers := { target := .collected D, args := #[] } :: a.defers } W)
    (hstop : ∀ (D : Nat) (c : Code) (pre : List α) (W : World), w.heap.size ≤ D → Sp pre → Ix c pre W → W.heap[D]? = some (.deferred (some [])) → c.wpIn F n P Q { a with defers := { target := .collected D, args := #[] } :: a.defers } W) :
    (Code.rangeFunc g ps assign body).wpIn F n P Q a w := by
  refine wpIn_rangeFunc fun fn hfn => ?_
  rw [hro]
  have hB : w.heap.size ≤ w.heap.size + 1 := Nat.le_succ _
  obtain ⟨mk, hmk⟩ : ∃ mk : LoopState → Option Code → Loop, mk = fun st pe => { state := st, pending := pe, fn, tmps := a.tmps, params := ps, assign, body, defers := w.heap.size } := ⟨_, rfl⟩
  obtain ⟨V, hV⟩ : ∃ V, (w.alloc (.deferred (some []))).alloc (.loop (mk .ready none)) = V := ⟨_, rfl⟩
  have hVl : V.heap[w.heap.size + 1]? = some (.loop (mk .ready none)) := by
    have h := World.alloc_heap_new (w.alloc (.deferred (some []))) (.loop (mk .ready none))
    rw [World.size_alloc] at h
    rw [← hV]; exact h
  have hVd : V.heap[w.heap.size]? = some (.deferred (some [])) := by
    rw [← hV]; exact (Below.heap_alloc _ _ _ (by simp)).trans (World.alloc_heap_new w _)
  have hVb : Below w0.heap.size w0 V := by
    rw [← hV]; exact hb0.trans ((((Below.refl _ w).alloc (Nat.le_refl _) _).alloc (by simp) _).mono hb0.size)
  have hVs : w.heap.size ≤ V.heap.size := by have := (Array.getElem?_eq_some_iff.1 hVd).1; omega
  have hV0 : I [] V := by rw [← hV]; exact hI.below (Nat.le_refl _) (((Below.refl _ w).alloc (Nat.le_refl _) _).alloc (by simp) _) h0
  have lV : w.heap.size + 1 < V.heap.size := (Array.getElem?_eq_some_iff.1 hVl).1
  -- the two blocks of book-keeping lie below what the iterator makes
  have keep : ∀ {Z X Y : World} {k : Nat} {o : Obj}, Below V.heap.size Z X → Below V.heap.size Z Y → k < V.heap.size → X.heap[k]? = some o → Y.heap[k]? = some o := fun {Z X Y k o} h1 h2 hk hX => (h2.block k hk).trans ((h1.block k hk).symm.trans hX)
  refine ⟨w.heap.size + 1, [{ target := .collected w.heap.size, args := #[] }], V, { target := .fn (.func gf) lb, args := #[.func (.yield (w.heap.size + 1)) #[] #[]] }, V, gf, #[.func (.yield (w.heap.size + 1)) #[] #[]] ++ lb, V, ?_, ?_, ?_, ?_, fun _ => h1, ?_⟩
  · rw [← hV, hmk]; exact run_enterLoop_outer _ _ _ _ _
  · simp only [resolve, hg]; simp [go_sem]
  · intro f' hf'; simp [Target.leads] at hf'; subst hf'; exact hF
  · simp [invoke, go_sem, eg]
  refine (hseq (w.heap.size + 1)
    (fun pre W => I pre W ∧ W.heap[w.heap.size + 1]? = some (.loop (mk .ready none)) ∧ W.heap[w.heap.size]? = some (.deferred (some [])))
    (fun pre W => ∃ c, Ix c pre W ∧ W.heap[w.heap.size + 1]? = some (.loop (mk .done (some c))) ∧ W.heap[w.heap.size]? = some (.deferred (some []))) V hVb
    (fun s Z X Y hZ hx hy h => ⟨hI s Z X Y (Nat.le_trans hVs hZ) (hx.mono hVs) (hy.mono hVs) h.1, keep hx hy lV h.2.1, keep hx hy (by omega) h.2.2⟩)
    (fun s Z X Y hZ hx hy h => h.elim fun c h => ⟨c, hIx c s Z X Y (Nat.le_trans hVs hZ) (hx.mono hVs) (hy.mono hVs) h.1, keep hx hy lV h.2.1, keep hx hy (by omega) h.2.2⟩)
    ?_ ⟨hV0, hVl, hVd⟩).mono ?_
  · rintro pre x W ⟨hi, hl, hk⟩ hax hlen
    have hlt : w.heap.size + 1 < W.heap.size := (Array.getElem?_eq_some_iff.1 hl).1
    have hy := run_yield (P := P) (args := encs x) hl (by rw [hmk]; exact hps x)
    rw [hmk] at hy
    refine ⟨fn, _, assign, body, hy, roundIn_of_wpIn hfn (hassign _ x W _ ⟨_, run_beginRound hl (by rw [hmk]), ?_⟩)⟩
    have l2 : (W.putObj (w.heap.size + 1) (.loop { mk .ready none with state := .busy })).heap[w.heap.size + 1]? = some (.loop { mk .ready none with state := .busy }) := World.putObj_heap_same hlt
    have k2 : (W.putObj (w.heap.size + 1) (.loop { mk .ready none with state := .busy })).heap[w.heap.size]? = some (.deferred (some [])) := (World.putObj_heap_other (by omega)).trans hk
    have p2 : Kp W (W.putObj (w.heap.size + 1) (.loop { mk .ready none with state := .busy })) := hKb _ _ _ _ hB hl rfl rfl
    refine wpIn_mono (hbody _ pre x _ (hI.putObj _ hi hB hl) (hA.putObj _ hax hB hl rfl) hlen) ?_
    have fin : ∀ (jump : Option Code) (X : World), KeepsFrom w.heap.size (W.putObj (w.heap.size + 1) (.loop { mk .ready none with state := .busy })) X →
        (Instr.endRound (w.heap.size + 1) jump).run P X = .ok (.bool jump.isNone) (X.putObj (w.heap.size + 1) (.loop (mk (if jump.isNone then .ready else .done) jump))) ∧
        X.heap[w.heap.size + 1]? = some (.loop { mk .ready none with state := .busy }) ∧
        (X.putObj (w.heap.size + 1) (.loop (mk (if jump.isNone then .ready else .done) jump))).heap[w.heap.size + 1]? = some (.loop (mk (if jump.isNone then .ready else .done) jump)) ∧
        (X.putObj (w.heap.size + 1) (.loop (mk (if jump.isNone then .ready else .done) jump))).heap[w.heap.size]? = some (.deferred (some [])) := fun jump X hX => by
      have l3 := hX.same _ _ hB l2 rfl
      have hr := run_endRound (P := P) jump l3
      rw [hmk] at hr l3 ⊢
      exact ⟨hr, l3, World.putObj_heap_same (Array.getElem?_eq_some_iff.1 l3).1, (World.putObj_heap_other (by omega)).trans (hX.same _ _ (Nat.le_refl _) k2 rfl)⟩
    rintro e a3 X hp
    cases e with
    | normal =>
      obtain ⟨hX, hkp, hi3⟩ := hp
      obtain ⟨r1, r2, r3, r4⟩ := fin none X hX
      exact ⟨_, _, r1, .inl ⟨rfl, ⟨hI.putObj _ hi3 hB r2, r3, r4⟩, hKt (hKt p2 hkp) (hKb _ _ _ _ hB r2 rfl rfl)⟩⟩
    | ret =>
      obtain ⟨r1, r2, r3, r4⟩ := fin (some .ret) X hp.1
      exact ⟨_, _, r1, .inr ⟨rfl, .ret, (hIx _).putObj _ hp.2 hB r2, r3, r4⟩⟩
    | exit id =>
      obtain ⟨r1, r2, r3, r4⟩ := fin (some (.exit id)) X hp.1
      exact ⟨_, _, r1, .inr ⟨rfl, .exit id, (hIx _).putObj _ hp.2 hB r2, r3, r4⟩⟩
    | goto t =>
      obtain ⟨r1, r2, r3, r4⟩ := fin (some (.goto t)) X hp.1
      exact ⟨_, _, r1, .inr ⟨rfl, .goto t, (hIx _).putObj _ hp.2 hB r2, r3, r4⟩⟩
    | panic ch => exact hp.elim
    | outgrown => exact hp.elim
  · rintro e X ⟨⟨v, rfl⟩, (⟨xs, hS, hi, hl, hk⟩ | ⟨pre, hSp, c, hi, hl, hk⟩)⟩
    · have hr := run_endLoop (P := P) hl (by rw [hmk]; simp)
      rw [hmk] at hr
      exact ⟨none, _, hr, hdone _ xs _ (Nat.le_refl _) hS (hI.putObj _ hi hB hl) ((World.putObj_heap_other (by omega)).trans hk)⟩
    · have hr := run_endLoop (P := P) hl (by rw [hmk]; simp)
      rw [hmk] at hr
      exact ⟨some c, _, hr, hstop _ c pre _ (Nat.le_refl _) hSp ((hIx c).putObj _ hi hB hl) ((World.putObj_heap_other (by omega)).trans hk)⟩
end
/-- a world up to a block -/
def cutW (B : Nat) (w : World) : World := { w with heap := w.heap.extract 0 B }
theorem cutW_size {B : Nat} {w : World} (h : B ≤ w.heap.size) : (cutW B w).heap.size = B := by simp [cutW]; omega
theorem cutW_below {B : Nat} {w : World} (h : B ≤ w.heap.size) : Below B (cutW B w) w :=
  ⟨rfl, rfl, rfl, by rw [cutW_size h]; exact h, fun k hk => by
    show w.heap[k]? = (w.heap.extract 0 B)[k]?
    rw [Array.getElem?_extract]
    simp
    intro h2; omega⟩
/-- pieces that lie at B and behind, seen from the world up to B -/
theorem Sep.rebase {w0 w w' : World} {Γ : List Pc} {B : Nat} (S : Sep w0 w Γ) (h0 : w0.heap.size = B) (hB : B ≤ w'.heap.size) (hsame : ∀ p ∈ Γ, ∀ k, p.foot k → w'.heap[k]? = w.heap[k]?) : Sep (cutW B w') w' Γ :=
  ⟨by rw [Ext, cutW_size hB]; exact cutW_below hB, fun p hp => p.loc w w' (S.all p hp) (hsame p hp), fun p hp k hk => by rw [cutW_size hB, ← h0]; exact S.new p hp k hk, S.apart⟩
/-- pieces that lie below B speak of no more -/
theorem Sep.far {w0 w w' Z : World} {Γ : List Pc} {B : Nat} (S : Sep w0 w Γ) (h0 : w0.heap.size ≤ B) (hZ : B ≤ Z.heap.size) (h1 : Below B Z w) (h2 : Below B Z w') (hf : ∀ p ∈ Γ, ∀ k, p.foot k → k < B) : Sep w0 w' Γ :=
  ⟨⟨h2.os.trans (h1.os.symm.trans S.ext.os), h2.tape.trans (h1.tape.symm.trans S.ext.tape), h2.output.trans (h1.output.symm.trans S.ext.output), by have := h2.size; omega, fun k hk => (h2.block k (by omega)).trans ((h1.block k (by omega)).symm.trans (S.ext.block k hk))⟩,
    fun p hp => p.loc w w' (S.all p hp) fun k hk => (h2.block k (hf p hp k hk)).trans (h1.block k (hf p hp k hk)).symm, S.new, S.apart⟩
end Go.Proofs.Ytkekibnhmfmhmaa
/- A row that rises: has it a number? -/
namespace Go.Proofs.Ytkekibnhmfmhmaa
open Go Go.RowKit
theorem inB_take_succ (l : List Int) (x : Int) (k : Nat) (h : k < l.length) : inB (l.take (k + 1)) x = (inB (l.take k) x || (nth l k == x)) := by
  unfold inB
  rw [take_succ_nth l k h, List.any_append]; simp
end Go.Proofs.Ytkekibnhmfmhmaa
/- What chapter 8's laws say, in plain words. -/
namespace Go.Proofs.Ytkekibnhmfmhmaa
open Go Go.RowKit
section
variable {nx nb : Nat → List Int} {n s t : Nat} (h : Rev nx nb n) (hs : s < n) (ht : t < n)
include h hs ht in
theorem half_law : stepsN n (lev nx n s) (lev nb n t) ≤ n ∧ (0 ≤ lev nx n s t → lev nx n s t = 2 * (stepsN n (lev nx n s) (lev nb n t) : Int) ∨ lev nx n s t = 2 * (stepsN n (lev nx n s) (lev nb n t) : Int) - 1) := by
  have hl := lev_lt (nx := nx) hs ht
  by_cases h0 : 0 ≤ lev nx n s t
  · have h1 := steps_yes h hs ht h0 (n + 1) 0 (by omega) (by omega)
    unfold stepsN
    rw [h1]
    refine ⟨by omega, fun _ => by omega⟩
  · have h1 := steps_no h hs ht (by omega) (n + 1) 0 (by omega) (.inl rfl)
    unfold stepsN
    exact ⟨by omega, fun h => absurd h h0⟩
end
/-- the path, as numbers -/
def pathI (nx : Nat → List Int) (g : Nat → Int) (k u : Nat) : List Int := (pathL nx g k u).map fun x : Nat => (x : Int)
theorem pathI_len (nx : Nat → List Int) (g : Nat → Int) (k u : Nat) : (pathI nx g k u).length = k + 1 := by unfold pathI; rw [List.length_map, pathL_len]
theorem nth_map_nat (l : List Nat) (i : Nat) (h : i < l.length) : nth (l.map fun x : Nat => (x : Int)) i = ((nth l i : Nat) : Int) := by
  rw [nth_eq (by rw [List.length_map]; exact h), nth_eq h, List.getElem_map]
theorem pathI_nth (nx : Nat → List Int) (g : Nat → Int) (k u : Nat) {i : Nat} (h : i ≤ k) : nth (pathI nx g k u) i = ((nth (pathL nx g k u) i : Nat) : Int) := nth_map_nat _ i (by rw [pathL_len]; omega)
/-- what Path tells -/
def pathR (nx nb : Nat → List Int) (n s t : Nat) : List Int := if 0 ≤ lev nx n s t then pathI nx (lev nb n t) (lev nx n s t).toNat s else []
theorem rising_nodup {l : List Int} (h : l.Nodup) : (putAll ltI l).length = l.length := by
  have h1 := putAll_rises stoI l
  have h2 : (putAll ltI l).Nodup := List.Pairwise.imp (fun {a b} hab e => by subst e; have := stoI.irrefl a; rw [hab] at this; cases this) h1
  exact ((List.perm_ext_iff_of_nodup h2 h).2 fun x => putAll_mem stoI l x).length_eq
section
variable {nx nb : Nat → List Int} {n s t : Nat} (h : Rev nx nb n) (hin : InN nx n) (hs : s < n) (ht : t < n) (h0 : 0 ≤ lev nx n s t)
include h hs ht h0 in
theorem lev_nb : lev nb n t s = ((lev nx n s t).toNat : Nat) := by rw [← lev_rev h hs ht]; omega
include h hin hs ht h0
theorem path_law : pathR nx nb n s t = pathI nx (lev nb n t) (lev nx n s t).toNat s ∧ ((pathR nx nb n s t).length : Int) = lev nx n s t + 1 ∧ nth (pathR nx nb n s t) 0 = s ∧ nth (pathR nx nb n s t) (lev nx n s t).toNat = t ∧ (pathR nx nb n s t).Nodup := by
  have e : pathR nx nb n s t = pathI nx (lev nb n t) (lev nx n s t).toNat s := by unfold pathR; rw [if_pos h0]
  rw [e]
  refine ⟨rfl, by rw [pathI_len]; omega, ?_, ?_, ?_⟩
  · rw [pathI_nth _ _ _ _ (Nat.zero_le _), pathL_first]
  · rw [pathI_nth _ _ _ _ (Nat.le_refl _), pathL_last h ht hin hs (lev_nb h hs ht h0)]
  · unfold pathI
    exact List.Pairwise.map _ (fun a b hab e => hab (by exact_mod_cast e)) (pathL_nodup h ht hin hs (lev_nb h hs ht h0))
theorem path_at {i : Nat} (hi : i < (pathR nx nb n s t).length) : ∃ v : Nat, nth (pathR nx nb n s t) i = v ∧ v < n ∧ 0 ≤ lev nx n v t ∧ pathR nx nb n v t = (pathR nx nb n s t).drop i := by
  obtain ⟨e, hl, _, _, _⟩ := path_law h hin hs ht h0
  have hk : i ≤ (lev nx n s t).toNat := by omega
  rw [e]
  obtain ⟨g1, g2, g3⟩ := pathL_at h ht hin _ s hs (lev_nb h hs ht h0) i hk
  generalize hv : nth (pathL nx (lev nb n t) (lev nx n s t).toNat s) i = v at *
  refine ⟨v, by rw [pathI_nth _ _ _ _ hk, hv], g1, ?_, ?_⟩
  · rw [lev_rev h g1 ht, g2]; omega
  · have h1 : lev nx n v t = (((lev nx n s t).toNat - i : Nat) : Int) := by rw [lev_rev h g1 ht, g2]
    unfold pathR
    rw [if_pos (by rw [h1]; omega), h1]
    unfold pathI
    rw [Int.toNat_natCast, ← List.map_drop, g3]
theorem path_next {i : Nat} (hi : i + 1 < (pathR nx nb n s t).length) : nth (pathR nx nb n s t) (i + 1) ∈ nx (nth (pathR nx nb n s t) i).toNat ∧ 0 ≤ nth (pathR nx nb n s t) i ∧ nth (pathR nx nb n s t) i < n := by
  obtain ⟨e, hl, _, _, _⟩ := path_law h hin hs ht h0
  have hk : i < (lev nx n s t).toNat := by omega
  rw [e, pathI_nth _ _ _ _ (by omega), pathI_nth _ _ _ _ (by omega), Int.toNat_natCast]
  refine ⟨(pathL_next h ht hin hs (lev_nb h hs ht h0) hk).1, by omega, ?_⟩
  have := (pathL_at h ht hin _ s hs (lev_nb h hs ht h0) i (by omega)).1
  omega
/-- no lesser next place is as near -/
theorem less_law (hr : Rises ltI (nx s)) (h2 : 1 < (pathR nx nb n s t).length) {y : Int} (hy : y ∈ nx s) (hlt : y < nth (pathR nx nb n s t) 1) : 0 ≤ y ∧ y < n ∧ (0 ≤ lev nx n y.toNat t → ((pathR nx nb n s t).length : Int) - 1 ≤ lev nx n y.toNat t) := by
  obtain ⟨e, hl, _, _, _⟩ := path_law h hin hs ht h0
  obtain ⟨b1, b2⟩ := hin s hs y hy
  refine ⟨b1, b2, fun hy0 => ?_⟩
  obtain ⟨k, hk⟩ : ∃ k, (lev nx n s t).toNat = k + 1 := ⟨(lev nx n s t).toNat - 1, by omega⟩
  have hb := lev_nb h hs ht h0
  rw [hk] at hb
  obtain ⟨x, g1, g2, g3, g4, g5, g6⟩ := stepL_is h ht hin hs hb
  have hx : nth (pathR nx nb n s t) 1 = x := by
    rw [e, pathI_nth _ _ _ _ (by omega), hk, (pathL_next h ht hin hs hb (i := 0) (by omega)).2, pathL_first, g5]
    omega
  rw [hx] at hlt
  have h3 := find_less hr g1 hy hlt
  have h4 : lev nb n t y.toNat ≠ lev nb n t s - 1 := by simpa using h3
  have h5 := lev_rev h (s := y.toNat) (by omega) ht
  have h6 : 0 ≤ lev nx n s t ∧ lev nx n s t ≤ 1 + lev nx n y.toNat t := by
    have hw := lev_wk (s := y.toNat) (by omega) ht hy0
    have h7 : wk nx n s (1 + (lev nx n y.toNat t).toNat) t = true := by
      refine wk_trans (v := y.toNat) ?_ _ t ht hw
      exact wk_succ.2 ⟨s, hs, wk_zero.2 rfl, by rw [Int.toNat_of_nonneg b1]; exact hy⟩
    have := lev_le hs ht h7
    omega
  omega
end
/-- a row of places is a walk -/
def walkB (ck : Bool) (O T l : List Int) : Bool := decide (0 < l.length) && outB ck O (nth l 0) && (List.range (l.length - 1)).all fun i => hasB ck O T (nth l i) (nth l (i + 1))
theorem walk_path {O T R V : List Int} (hck : checkR O T R V = true) {s t : Nat} (hs : s < O.length - 1) (ht : t < O.length - 1) (h0 : 0 ≤ lev (rowL O T) (O.length - 1) s t) : walkB true O T (pathR (rowL O T) (rowL R V) (O.length - 1) s t) = true := by
  have hR : Rev (rowL O T) (rowL R V) (O.length - 1) := nxR_rev hck false
  have hin : InN (rowL O T) (O.length - 1) := nxR_in hck false
  obtain ⟨_, hl, h1, _, _⟩ := path_law hR hin hs ht h0
  have hN := fun i hi => path_next hR hin hs ht h0 (i := i) hi
  generalize pathR (rowL O T) (rowL R V) (O.length - 1) s t = P at *
  unfold walkB
  rw [Bool.and_eq_true, Bool.and_eq_true, List.all_eq_true]
  refine ⟨⟨by simp; omega, by unfold outB; rw [h1]; simp; omega⟩, fun i hi => ?_⟩
  rw [List.mem_range] at hi
  obtain ⟨g1, g2, g3⟩ := hN i (by omega)
  have hb : outB true O (nth P i) = true := by unfold outB; simp; omega
  unfold hasB
  rw [hb, outL_yes hb, Bool.true_and]
  exact (inB_iff _ _).2 g1
end Go.Proofs.Ytkekibnhmfmhmaa
/- What Path's two loops keep, in plain words. -/
namespace Go.Proofs.Ytkekibnhmfmhmaa
open Go Go.RowKit
section
variable {nx nb : Nat → List Int} {n s t : Nat} (h : Rev nx nb n) (hs : s < n) (ht : t < n)
include hs in
theorem cut_all {k : Nat} (hF : IsFront (lev nx n s) n ((k + 1 : Nat) : Int) []) : cutL (lev nx n s) n k = (List.range n).map fun v => lev nx n s v := by
  have hno : hasL n (lev nx n s) ((k + 1 : Nat) : Int) = false := by
    cases e : hasL n (lev nx n s) ((k + 1 : Nat) : Int) with
    | false => rfl
    | true => exact absurd ((front_has hF).1 e) (by simp)
  unfold cutL
  apply List.map_congr_left
  intro v hv
  rw [List.mem_range] at hv
  unfold cut
  rcases lev_cases (nx := nx) hs hv with ⟨h1, _⟩ | ⟨j, hj, h1, _⟩
  · rw [if_neg (by omega), h1]
  · by_cases hjk : j ≤ k
    · rw [if_pos (by omega)]
    · have := has_below hs (k := j) (j := k + 1) (by omega) (hasL_iff.2 ⟨v, hv, h1⟩)
      rw [hno] at this
      cases this
end
theorem levL_nth {f : Nat → Int} {n v : Nat} (hv : v < n) : nth ((List.range n).map fun v => f v) v = f v := by
  rw [nth_eq (by simpa using hv)]; simp
theorem find_at {p : Int → Bool} {l : List Int} {j : Nat} (hj : j < l.length) (h : (l.take j).find? p = none) (hp : p (nth l j) = true) : l.find? p = some (nth l j) := by
  have e : l = l.take j ++ (nth l j :: l.drop (j + 1)) := by
    rw [nth_eq hj, ← List.drop_eq_getElem_cons hj, List.take_append_drop]
  generalize nth l j = x at *
  rw [e, List.find?_append, h, List.find?_cons_of_pos hp]; rfl
theorem find_step {p : Int → Bool} {l : List Int} {j : Nat} (hj : j < l.length) (h : (l.take j).find? p = none) (hp : p (nth l j) = false) : (l.take (j + 1)).find? p = none := by
  rw [take_succ_nth l j hj, List.find?_append, h, List.find?_cons_of_neg (by simp [hp])]; rfl
section
variable {nx nb : Nat → List Int} {n s t : Nat} (h : Rev nx nb n) (hin : InN nx n) (hs : s < n) (ht : t < n)
include h hin hs ht
/-- a step of the walk -/
theorem walk_step {k : Nat} (hk : lev nb n t s = k) {i : Nat} (hi : i < k) : ∃ a : Nat, nth (pathI nx (lev nb n t) k s) i = a ∧ a < n ∧ lev nb n t a = ((k - i : Nat) : Int) ∧
    (∃ x, (nx a).find? (fun x => lev nb n t x.toNat == ((k - i : Nat) : Int) - 1) = some x) ∧
    ∀ x, (nx a).find? (fun x => lev nb n t x.toNat == ((k - i : Nat) : Int) - 1) = some x → nth (pathI nx (lev nb n t) k s) (i + 1) = x ∧ (pathI nx (lev nb n t) k s).take (i + 2) = (pathI nx (lev nb n t) k s).take (i + 1) ++ [x] := by
  obtain ⟨g1, g2, g3⟩ := pathL_at h ht hin k s hs hk i (by omega)
  have g4 := (pathL_next h ht hin hs hk hi).2
  have e1 := pathI_nth nx (lev nb n t) k s (i := i) (by omega)
  have e2 := pathI_nth nx (lev nb n t) k s (i := i + 1) (by omega)
  have e3 := take_succ_nth (pathI nx (lev nb n t) k s) (i + 1) (by rw [pathI_len]; omega)
  generalize nth (pathL nx (lev nb n t) k s) i = a at *
  obtain ⟨j, hj⟩ : ∃ j, k - i = j + 1 := ⟨k - i - 1, by omega⟩
  obtain ⟨y, q1, q2, q3, q4, q5, q6⟩ := stepL_is h ht hin g1 (by rw [g2, hj])
  rw [g2] at q1
  refine ⟨a, e1, g1, g2, ⟨y, q1⟩, fun x hx => ?_⟩
  rw [q1] at hx
  obtain rfl : y = x := by injection hx
  have e4 : nth (pathI nx (lev nb n t) k s) (i + 1) = y := by rw [e2, g4, q5]; omega
  exact ⟨e4, by rw [show i + 2 = i + 1 + 1 by omega, e3, e4]⟩
end
end Go.Proofs.Ytkekibnhmfmhmaa
/- The program's searches (chapter 8): a side that begins. -/
namespace Go.Proofs.Ytkekibnhmfmhmaa
open Go Go.RowKit
theorem Sep.alrow {w0 w : World} {Γ : List Pc} (S : Sep w0 w Γ) (cs : Array Value) (e : TypeId) (size n g : Nat) (hg : w.heap.size = g) (hm : n ≤ maxLen) (hs : cs.size = n * size) : Sep w0 (w.alloc (.cells cs e)) (.own e size (some ⟨g, 0, none⟩) n n cs.toList :: Γ) := by
  subst hg
  exact S.fresh (Ext.alloc (Below.refl _ _) _) (World.ownsRow_lit w cs n (Nat.le_refl _) hm hs) (Nat.le_refl _)
end Go.Proofs.Ytkekibnhmfmhmaa
/- The program's levels (chapter 7): fronts, the iterator's making; what it keeps. -/
namespace Go.Proofs.Ytkekibnhmfmhmaa
open Go Go.RowKit
/-- what a round keeps: what lay below n₀, the iterator's boxes, and each row of cells from B on -/
structure KpF (n₀ B b1 b2 b3 : Nat) (W W' : World) : Prop where
  low : Below n₀ W W'
  x1 : W'.heap[b1]? = W.heap[b1]?
  x2 : W'.heap[b2]? = W.heap[b2]?
  x3 : W'.heap[b3]? = W.heap[b3]?
  up : ∀ (k : Nat) (o : Obj), B ≤ k → W.heap[k]? = some o → o.isCells = true → W'.heap[k]? = some o
theorem KpF.trans {n₀ B b1 b2 b3 : Nat} {X Y Z : World} (h : KpF n₀ B b1 b2 b3 X Y) (k : KpF n₀ B b1 b2 b3 Y Z) : KpF n₀ B b1 b2 b3 X Z :=
  ⟨h.low.trans k.low, k.x1.trans h.x1, k.x2.trans h.x2, k.x3.trans h.x3, fun i o hB h1 h2 => k.up i o hB (h.up i o hB h1 h2) h2⟩
/-- what is yielded -/
structure Yl where
  k : Nat
  F : List Int
  q : Option Addr
  c : Nat
abbrev YlOf (nx : Nat → List Int) (n s : Nat) := { x : Yl // IsFront (lev nx n s) n x.k x.F ∧ 0 < x.F.length }
def ylA {nx : Nat → List Int} {n s : Nat} (B : Nat) (x : YlOf nx n s) (W : World) : Prop := Rd W 1 x.1.q x.1.F.length (encI x.1.F) ∧ B ≤ (adr x.1.q 0).block
def ylE {nx : Nat → List Int} {n s : Nat} (x : YlOf nx n s) : Array Value := #[.int .i64 x.1.k, .slice x.1.q x.1.F.length x.1.c]
def ylS {nx : Nat → List Int} {n s : Nat} (xs : List (YlOf nx n s)) : Prop := xs.map (·.1.k) = List.range xs.length ∧ hasL n (lev nx n s) xs.length = false
/-- which places are seen -/
def seenL (X l : List Int) (n : Nat) : List Value := (List.range n).map fun v => .bool (decide (0 ≤ nth X v) || decide ((v : Int) ∈ l))
theorem seenL_len (X l : List Int) (n : Nat) : (seenL X l n).length = n := by simp [seenL]
theorem seenL_at {X l : List Int} {n v : Nat} (h : v < n) : (seenL X l n)[v]? = some (.bool (decide (0 ≤ nth X v) || decide ((v : Int) ∈ l))) := by
  simp [seenL, h]
theorem seenL_set {X l : List Int} {n v : Nat} (_ : v < n) : (seenL X l n).set v (.bool true) = seenL X (l ++ [(v : Int)]) n := by
  apply List.ext_getElem
  · simp [seenL]
  · intro j h1 h2
    have hj : j < n := by simpa [seenL] using h2
    simp only [seenL, List.getElem_set, List.getElem_map, List.getElem_range]
    by_cases e : v = j
    · subst e; simp
    · rw [if_neg e]
      have : ((j : Int) ∈ l ++ [(v : Int)]) ↔ (j : Int) ∈ l := by
        rw [List.mem_append, List.mem_singleton]
        constructor
        · rintro (h | h)
          · exact h
          · omega
        · exact .inl
      simp only [this]
theorem seenL_next {nx : Nat → List Int} {n s k : Nat} {L : List Int} (hL : IsFront (lev nx n s) n ((k + 1 : Nat) : Int) L) : seenL (cutL (lev nx n s) n k) L n = seenL (cutL (lev nx n s) n (k + 1 : Nat)) [] n := by
  unfold seenL
  apply List.map_congr_left
  intro v hv
  rw [List.mem_range] at hv
  rw [cutL_nth hv, cutL_nth hv]
  congr 1
  rw [Bool.eq_iff_iff]
  simp only [Bool.or_eq_true, decide_eq_true_eq, cut_ge, List.not_mem_nil, or_false]
  rw [hL.2]
  simp
  omega
theorem seenL_0 {nx : Nat → List Int} {n s : Nat} (hs : s < n) : (List.replicate n (Value.bool false)).set s (.bool true) = seenL (cutL (lev nx n s) n (0 : Nat)) [] n := by
  apply List.ext_getElem
  · simp [seenL]
  · intro j h1 h2
    have hj : j < n := by simpa [seenL] using h2
    simp only [seenL, List.getElem_set, List.getElem_map, List.getElem_range, List.getElem_replicate]
    rw [cutL_nth hj]
    have h0 := (lev_ok nx n s hs).zero j hj
    by_cases e : s = j
    · rw [if_pos e]
      have : 0 ≤ cut (lev nx n s) ((0 : Nat) : Int) j := cut_ge.2 (by have := h0.2 e.symm; omega)
      simpa using this
    · rw [if_neg e]
      have : ¬ 0 ≤ cut (lev nx n s) ((0 : Nat) : Int) j := fun h => by
        have h1 := cut_ge.1 h
        exact e (h0.1 (by omega)).symm
      simpa using this
end Go.Proofs.Ytkekibnhmfmhmaa
/- The program's levels (chapter 7): the iterator over fronts, its contract. -/
namespace Go.Proofs.Ytkekibnhmfmhmaa
open Go Go.RowKit
attribute [local go_sem] Oper.semAt_some
/-- what lay low stays, and the iterator's boxes -/
structure LowF (n₀ b1 b2 b3 : Nat) (w W : World) : Prop where
  low : Below n₀ w W
  x1 : W.heap[b1]? = w.heap[b1]?
  x2 : W.heap[b2]? = w.heap[b2]?
  x3 : W.heap[b3]? = w.heap[b3]?
theorem LowF.far {n₀ b1 b2 b3 B : Nat} {w Z W W' : World} (h : LowF n₀ b1 b2 b3 w W) (h0 : n₀ ≤ B) (h1 : b1 < B) (h2 : b2 < B) (h3 : b3 < B) (hB : w.heap.size ≤ Z.heap.size) (k1 : Below B Z W) (k2 : Below B Z W') : LowF n₀ b1 b2 b3 w W' :=
  have e : ∀ k, k < B → W'.heap[k]? = W.heap[k]? := fun k hk => (k2.block k hk).trans (k1.block k hk).symm
  ⟨⟨k2.os.trans (k1.os.symm.trans h.low.os), k2.tape.trans (k1.tape.symm.trans h.low.tape), k2.output.trans (k1.output.symm.trans h.low.output), Nat.le_trans hB k2.size, fun k hk => (e k (by omega)).trans (h.low.block k hk)⟩,
    (e b1 h1).trans h.x1, (e b2 h2).trans h.x2, (e b3 h3).trans h.x3⟩
theorem front_bd8 {f : Nat → Int} {n : Nat} {k : Int} {F : List Int} (hF : IsFront f n k F) : (∀ x ∈ F, 0 ≤ x ∧ x < n) ∧ F.length ≤ n :=
  ⟨fun x hx => ⟨((hF.2 x).1 hx).1, ((hF.2 x).1 hx).2.1⟩, nodup_small hF.1 fun x hx => ⟨((hF.2 x).1 hx).1, ((hF.2 x).1 hx).2.1⟩⟩
def StQ (b s : Nat) (i : Nat) (v : Value) (W : World) : Prop := (i = 1 ∨ i = 3) → ∃ q, v = .slice q 1 1 ∧ W.ownsRow b 3 1 (.slice q 1 1) 1 (encI [(s : Int)])
theorem StQ_mono {b s : Nat} : ∀ i v W W', Ext W W' → StQ b s i v W → StQ b s i v W' := fun _ _ _ _ he h hi => let ⟨q, h1, h2⟩ := h hi; ⟨q, h1, he.own h2⟩
theorem made_bool (n : Nat) : (madeCells (Value.bool false).cells (n * 1)).toList = List.replicate n (.bool false) := by
  apply List.ext_getElem
  · simp [madeCells]
  · intro i h1 h2
    simp [madeCells, Value.cells, Nat.mod_one]
theorem infB : (Try.prog.info? 4).map (fun i => (i.zero, i.size, i.bytes)) = some (some (.bool false), 1, 1) := by kernel_rfl
end Go.Proofs.Ytkekibnhmfmhmaa
/- slices.Repeat of one number. -/
namespace Go.Proofs.Ytkekibnhmfmhmaa
open Go Go.RowKit Go.Shelf
/-- so many are laid, the rest is 0 -/
def rowR (n k : Nat) : List Value := encI (List.replicate k (-1) ++ List.replicate (n - k) 0)
theorem rowR_len {n k : Nat} (h : k ≤ n) : (rowR n k).length = n := by simp [rowR, encI]; omega
theorem rowR_at {n k j : Nat} (h : j < k) : (rowR n k)[j]? = some (.int .i64 (-1)) := by
  have e : rowR n k = List.replicate k (.int .i64 (-1)) ++ List.replicate (n - k) (.int .i64 0) := by simp [rowR, encI]
  rw [e, List.getElem?_append_left (by simpa using h)]
  simp [h]
theorem rowR_splice {n k m : Nat} (h : k + m ≤ n) : splice (rowR n k) k (encI (List.replicate m (-1))) = rowR n (k + m) := by
  have e : List.replicate (n - k) (0 : Int) = List.replicate m 0 ++ List.replicate (n - (k + m)) 0 := by
    rw [List.replicate_append_replicate]; congr 1; omega
  have e2 : List.replicate (k + m) (Value.int .i64 (-1)) = List.replicate k (.int .i64 (-1)) ++ List.replicate m (.int .i64 (-1)) := List.replicate_append_replicate.symm
  unfold splice rowR
  rw [e]
  simp [encI, List.drop_append]
  rw [e2, List.append_assoc]
theorem own_blk {w : World} {base : Nat} {e : TypeId} {q : Option Addr} {n : Nat} {xs : List Value} (h : w.ownsRow base e 1 (.slice q n n) n xs) (hn : 0 < n) : ∃ g, q = some ⟨g, 0, none⟩ ∧ base ≤ g ∧ Blk w g e xs.toArray := by
  rcases h.2 with ⟨h1, h2⟩ | ⟨g, cap, cur, h1, h2, h3, h4, h5, h6, h7⟩
  · omega
  · injection h1 with h1 _ h8
    subst h8
    refine ⟨g, h1, h2, ?_⟩
    have h9 : cur.toList = xs := by rw [← h7, List.take_of_length_le (by rw [Array.length_toList, h6]; exact Nat.le_refl _)]
    unfold Blk
    rw [h3, ← h9]
theorem blk_own {w : World} {base g : Nat} {e : TypeId} {n : Nat} {xs : List Value} (h : Blk w g e xs.toArray) (hb : base ≤ g) (hm : n ≤ maxLen) (hl : xs.length = n) : w.ownsRow base e 1 (.slice (some ⟨g, 0, none⟩) n n) n xs :=
  ⟨by simpa using hl, .inr ⟨g, n, xs.toArray, rfl, hb, h, Nat.le_refl _, hm, by simpa using hl, by rw [List.take_of_length_le (by simp [hl])]⟩⟩
theorem sizeI1 : (Try.prog.info? 3).map (·.size) = some 1 := by kernel_rfl
/-- a copy of so many of them -/
theorem wp_copyR {w0 w : World} {ops : Array Oper} {rest : List Oper} {o : Oper} {a : Act} {Q : Exit → Act → World → Prop} (hgd : o.guard = none) (d s : Operand)
    (ho : o.op = .call { callee := .builtin .copy, args := #[d, s], argTypes := #[51, 51] }) {n k m g dc sl sc : Nat} {dp sp : Option Addr} (hd : a.eval d = .slice dp (n - k) dc) (hs : a.eval s = .slice sp sl sc)
    (hm : m = Nat.min sl (n - k)) (hk : k ≤ n) (hdp : 0 < m → dp = some ⟨g, k, none⟩) (hsp : 0 < m → ∃ ad, sp = some ad ∧ ∀ j, j < m → w.cell? (ad.add j) = some (.int .i64 (-1)))
    (HB : Blk w g 3 (rowR n k).toArray) (HE : Ext w0 w) (hg : w0.heap.size ≤ g)
    (h : ∀ w', Blk w' g 3 (rowR n (k + m)).toArray → Ext w0 w' → wpList Try.prog ops Q rest (a.put o.dst (.int .i64 m)) w') : wpList Try.prog ops Q (o :: rest) a w := by
  have hmn : k + m ≤ n := by
    have h0 : m ≤ n - k := hm ▸ Nat.min_le_right _ _
    omega
  have hl : (encI (List.replicate m (-1))).length = m := by simp [encI]
  refine wpList_copy_splice hgd d s 51 51 ho 3 Try.underlying51 sizeI1 dp sp (n - k) dc sl sc hd hs g k (rowR n k) 3 HB (encI (List.replicate m (-1))) (by rw [hl]; exact hm) ?_ (by rw [rowR_len hk, hl]; exact hmn) ?_ w0.heap.size w0 HE hg ?_
  · rw [hl]
    intro hm0
    obtain ⟨ad, h1, h2⟩ := hsp hm0
    refine ⟨hdp hm0, ad, h1, fun j v hj => ?_⟩
    have hj' : j < m := by have := (List.getElem?_eq_some_iff.1 hj).1; rw [hl] at this; exact this
    rw [h2 j hj']
    simp [encI, hj'] at hj
    rw [← hj]
  · intro v hv
    simp [encI] at hv
    rw [hv.2]; rfl
  · intro w' h1 h2
    rw [rowR_splice hmn] at h1
    have := h w' h1.out h2
    rw [hl]; exact this
theorem one_src {w : World} {p : Option Addr} (h : Rd w 1 p 1 (encI [-1])) : ∃ ad, p = some ad ∧ ∀ j, j < 1 → w.cell? (ad.add j) = some (.int .i64 (-1)) := by
  rcases h.ptr with h0 | ⟨b, o, rfl⟩
  · omega
  · refine ⟨_, rfl, fun j hj => ?_⟩
    obtain rfl : j = 0 := by omega
    exact h.cI (k := 0) (by omega)
theorem row_src {w : World} {g n k m : Nat} (h : Blk w g 3 (rowR n k).toArray) (hm : m ≤ k) : ∃ ad, (some ⟨g, 0, none⟩ : Option Addr) = some ad ∧ ∀ j, j < m → w.cell? (ad.add j) = some (.int .i64 (-1)) := by
  refine ⟨_, rfl, fun j hj => ?_⟩
  have := h.cell j
  rw [List.getElem?_toArray, rowR_at (by omega)] at this
  simpa [Addr.add_lit] using this
theorem copy_run {W : World} {g n k m : Nat} (hB : Blk W g 3 (rowR n k).toArray) (hk1 : 1 ≤ k) (hkn : k < n) (hm : m = Nat.min k (n - k)) :
    (Builtin.copy_ #[51, 51] 3 #[.slice (cutp (some ⟨g, 0, none⟩) n k 1) (n - k) (n - k), .slice (cutp (some ⟨g, 0, none⟩) n 0 1) k n]).run Try.prog W = .ok (.int .i64 m) (W.setRow g (rowR n (k + m)).toArray) := by
  have hmn : m ≤ n - k := hm ▸ Nat.min_le_right _ _
  have hmk : m ≤ k := hm ▸ Nat.min_le_left _ _
  have e1 : cutp (some ⟨g, 0, none⟩) n k 1 = some ⟨g, k, none⟩ := by unfold cutp; rw [if_neg (by omega)]; simp [Addr.add_lit]
  have e2 : cutp (some ⟨g, 0, none⟩) n 0 1 = some ⟨g, 0, none⟩ := by unfold cutp; rw [if_neg (by omega)]; simp [Addr.add_lit]
  have hl : (encI (List.replicate m (-1))).length = m := by simp [encI]
  rw [e1, e2]
  have h := run_copy_row (P := Try.prog) W 51 51 3 3 g k (n - k) (n - k) ⟨g, 0, none⟩ k n (rowR n k).toArray 3 (encI (List.replicate m (-1))) Try.underlying51 sizeI1 hB (by rw [hl]; exact hm) (fun j v hj => by
    have hj' : j < m := by have := (List.getElem?_eq_some_iff.1 hj).1; rw [hl] at this; exact this
    have h1 := hB.cell j
    rw [List.getElem?_toArray, rowR_at (by omega)] at h1
    simp [encI, hj'] at hj
    rw [← hj]
    simpa [Addr.add_lit] using h1) (by rw [hl]; simp [rowR_len (Nat.le_of_lt hkn)]; omega) (by intro v hv; simp [encI] at hv; rw [hv.2]; rfl)
  rw [h, hl]
  have e3 : (rowR n k).toArray.toList.take k ++ (encI (List.replicate m (-1)) ++ (rowR n k).toArray.toList.drop (k + m)) = rowR n (k + m) := by
    have := rowR_splice (n := n) (k := k) (m := m) (by omega)
    unfold splice at this
    rw [hl] at this
    exact this
  rw [List.append_assoc, e3]; rfl
end Go.Proofs.Ytkekibnhmfmhmaa
/- The program's levels (chapter 7): Levels. -/
namespace Go.Proofs.Ytkekibnhmfmhmaa
open Go Go.RowKit Go.Shelf Go.Lib
attribute [local go_sem] Oper.semAt_some
theorem levC_open {ck : Bool} {O : List Int} {s : Int} : openC ck O [s] = levC ck O s := by
  unfold openC levC
  cases ck with
  | false => rfl
  | true =>
    rw [if_pos rfl, if_pos rfl]
    by_cases h : 0 ≤ s ∧ s < (O.length : Int) - 1
    · rw [if_pos h, if_pos (by simp [h.1, h.2])]
    · rw [if_neg h, if_neg (by simp; omega)]
/-- what is known of levels when these have been gone through -/
def levRow (f : Nat → Int) (n : Nat) (ks : List Nat) : List Int := (List.range n).map fun v => if 0 ≤ f v ∧ (f v).toNat ∈ ks then f v else -1
theorem levRow_len (f : Nat → Int) (n : Nat) (ks : List Nat) : (levRow f n ks).length = n := by simp [levRow]
theorem levRow_nth {f : Nat → Int} {n : Nat} {ks : List Nat} {v : Nat} (hv : v < n) : nth (levRow f n ks) v = if 0 ≤ f v ∧ (f v).toNat ∈ ks then f v else -1 := by
  rw [nth_eq (by rw [levRow_len]; exact hv)]; simp [levRow]
theorem levRow_nil (f : Nat → Int) (n : Nat) : levRow f n [] = List.replicate n (-1) := by
  apply List.ext_getElem
  · simp [levRow]
  · intro j h1 h2; simp [levRow]
theorem levRow_step {f : Nat → Int} {n : Nat} {ks : List Nat} {k : Nat} {F : List Int} (hF : IsFront f n k F) : tkR (k : Int) F (levRow f n ks) = levRow f n (ks ++ [k]) := by
  apply List.ext_getElem
  · rw [tkR_len, levRow_len, levRow_len]
  · intro v h1 h2
    have hv : v < n := by rw [levRow_len] at h2; exact h2
    rw [← nth_eq h1, ← nth_eq h2, tkR_nth (fun x hx => by have := (hF.2 x).1 hx; rw [levRow_len]; omega), levRow_nth hv, levRow_nth hv]
    by_cases hm : (v : Int) ∈ F
    · have := (hF.2 _).1 hm
      rw [Int.toNat_natCast] at this
      rw [if_pos hm, if_pos ⟨by omega, by rw [List.mem_append]; right; simp; omega⟩]; omega
    · rw [if_neg hm]
      have hne : f v ≠ k := fun e => hm ((hF.2 _).2 ⟨by omega, by omega, by rw [Int.toNat_natCast]; exact e⟩)
      by_cases h0 : 0 ≤ f v
      · have e : ((f v).toNat ∈ ks ++ [k]) ↔ (f v).toNat ∈ ks := by
          rw [List.mem_append, List.mem_singleton]
          constructor
          · rintro (h | h)
            · exact h
            · omega
          · exact .inl
        simp only [e]
      · rw [if_neg (fun h => h0 h.1), if_neg (fun h => h0 h.1)]
theorem levRow_all {nx : Nat → List Int} {n s m : Nat} (hs : s < n) (hno : hasL n (lev nx n s) m = false) : levRow (lev nx n s) n (List.range m) = (List.range n).map fun v => lev nx n s v := by
  unfold levRow
  apply List.map_congr_left
  intro v hv
  rw [List.mem_range] at hv
  rcases lev_cases (nx := nx) hs hv with ⟨h1, _⟩ | ⟨j, hj, h1, _⟩
  · rw [if_neg (by omega), h1]
  · by_cases hjm : j < m
    · rw [if_pos ⟨by omega, by rw [List.mem_range]; omega⟩]
    · have := has_below hs (k := j) (j := m) (by omega) (hasL_iff.2 ⟨v, hv, h1⟩)
      rw [hno] at this; cases this
theorem cell_turn {W W' : World} {row : Option Nat} {p : Addr} {v : Value} (h : W.cell? p = some v) (hg : W.grownBy W' row) (hr : ∀ r, row = some r → ∃ o : Obj, W.heap[r]? = some o ∧ o.isCells = false) : W'.cell? p = some v := by
  have hlt := World.block_lt_of_cell? W _ h
  have e : W'.heap[p.block]? = W.heap[p.block]? := hg.block p.block hlt fun e => by
    obtain ⟨o, h1, h2⟩ := hr p.block e.symm
    unfold World.cell? at h
    rw [h1] at h
    cases o <;> simp_all [Obj.isCells]
  unfold World.cell? at *
  rw [e]; exact h
theorem ylA_own {nx : Nat → List Int} {n s B C : Nat} : OwnFrom C (ylA B : YlOf nx n s → World → Prop) := fun _ _ _ _ h hg hr =>
  ⟨⟨h.1.len, h.1.ptr, h.1.small, fun j hj => cell_turn (h.1.cells j hj) hg fun r e => (hr r e).2⟩, h.2⟩
theorem kpF_b {w4 : World} {n₀ b1 b2 b3 : Nat} (hn : n₀ ≤ w4.heap.size) (h1 : b1 < w4.heap.size) (h2 : b2 < w4.heap.size) (h3 : b3 < w4.heap.size) (W : World) (l : Nat) (o o' : Obj) (hl : w4.heap.size ≤ l) (h : W.heap[l]? = some o) (hc : o.isCells = false) (hw : o.isWalk = false) : KpF n₀ w4.heap.size b1 b2 b3 W (W.putObj l o') :=
  ⟨belowK_b hn W l o o' hl h hc hw, World.putObj_heap_other (by omega), World.putObj_heap_other (by omega), World.putObj_heap_other (by omega), fun k o2 hk h2 h3 => by
    by_cases e : k = l
    · subst e; rw [h] at h2; cases h2; rw [hc] at h3; cases h3
    · rw [World.putObj_heap_other (by omega)]; exact h2⟩
theorem cell_eq {W W' : World} {p : Addr} (h : W'.heap[p.block]? = W.heap[p.block]?) : W'.cell? p = W.cell? p := by unfold World.cell?; rw [h]
end Go.Proofs.Ytkekibnhmfmhmaa
/- The program's hits (chapter 9): Hits. -/
namespace Go.Proofs.Ytkekibnhmfmhmaa
open Go Go.RowKit
attribute [local go_sem] Oper.semAt_some
/-- the error: of rows and places first, then of words and radius -/
def nearC (ck : Bool) (O : List Int) (s : Int) (ws : List ByteArray) (rad : Int) : Int := if levC ck O s ≠ 0 then levC ck O s else if ws.length = 0 ∨ rad < 0 then 1 else 0
def nearR (ck : Bool) (O T R V : List Int) (s : Int) (L : List Po) (ws : List ByteArray) (rad : Int) : List (Int × Int) := if nearC ck O s ws rad = 0 then sortN (gatN (levR ck false O T R V s) rad (allX L ws)) else []
theorem allX_rises (L : List Po) (ws : List ByteArray) : Rises ltI (allX L ws) := by
  unfold allX; split
  · exact List.Pairwise.nil
  · exact allS_rises L ws
theorem allX_nodup (L : List Po) (ws : List ByteArray) : (allX L ws).Nodup := (allX_rises L ws).imp fun {a b} h e => by subst e; rw [stoI.irrefl] at h; cases h
end Go.Proofs.Ytkekibnhmfmhmaa
/- The document's hits (chapter 9, reference): Ahead, put. -/
namespace Go.Proofs.Ytkekibnhmfmhmaa
open Go Go.RowKit
set_option maxRecDepth 100000 in
set_option maxHeartbeats 4000000 in
theorem Ahead09 (a b : Int × Int) (w : World) : Calls Try.prog 15 #[.agg #[.int .i64 a.1, .int .i64 a.2], .agg #[.int .i64 b.1, .int .i64 b.2]] w fun e w' => e = .returned (.bool (ltN a b)) ∧ Ext w w' := by
  have S0 := Lib.hid (((Sep.start w).al #[.int .i64 a.1, .int .i64 a.2] 48 w.heap.size rfl).al #[.int .i64 b.1, .int .i64 b.2] 48 (w.heap.size + 1) (by simp))
  obtain ⟨a1, a2⟩ := a
  obtain ⟨b1, b2⟩ := b
  unfold ltN
  simp only at *
  by_cases h1 : a2 < b2
  · have e1 : decide (a2 < b2) = true := by simpa using h1
    rw [e1, Bool.true_or]
    clear h1
    go_enter Try.func15, Try.ntmps15
    go_wp2
    go_ret
    exact ⟨rfl, S0.out.ext⟩
  · have e1 : decide (a2 < b2) = false := by simpa using h1
    rw [e1, Bool.false_or]
    by_cases h2 : a2 = b2
    · have e2 : (a2 == b2) = true := by simpa using h2
      rw [decide_eq_true h2, Bool.true_and]
      clear h1 h2
      go_enter Try.func15, Try.ntmps15
      go_wp2
      go_ret
      exact ⟨rfl, S0.out.ext⟩
    · have e2 : (a2 == b2) = false := by simpa using h2
      rw [decide_eq_false h2, Bool.false_and]
      clear h1 h2
      go_enter Try.func15, Try.ntmps15
      go_wp2
      go_ret
      exact ⟨rfl, S0.out.ext⟩
theorem rd_takeE {w : World} {q : Option Addr} {n d : Nat} {L : List (Int × Int)} (h : Rd w 2 q n (encE L)) (hd : d ≤ n) : Rd w 2 q d (encE (L.take d)) := by
  have := h.take (k := d) hd
  rwa [encE_take] at this
theorem rd_cutE {w : World} {q : Option Addr} {n d c : Nat} {L : List (Int × Int)} (h : Rd w 2 q n (encE L)) (hd : d ≤ n) (hc : n ≤ c) : Rd w 2 (cutp q c d 2) (n - d) (encE (L.drop d)) := by
  have hl := h.nE
  have := h.cut (l := d) (h := n) (c := c) hd (Nat.le_refl _) hc
  rw [encE_drop, encE_take, List.take_of_length_le (by rw [List.length_drop]; omega)] at this
  exact this
end Go.Proofs.Ytkekibnhmfmhmaa
/- An argument that is a graph, opened: what its slices read. -/
namespace Go.Proofs.Ytkekibnhmfmhmaa
open Go Go.RowKit Go.ChangeShapes Go.WideShapes Go.ChangeAt Go.Deep Go.Joins
theorem exists_list {α : Type} [Inhabited α] {n : Nat} {p : Nat → α → Prop} (h : ∀ i, i < n → ∃ x, p i x) : ∃ l : List α, l.length = n ∧ ∀ i, i < n → p i (nth l i) := by
  induction n with
  | zero => exact ⟨[], rfl, fun i hi => by omega⟩
  | succ n ih =>
    obtain ⟨l, hl, hp⟩ := ih fun i hi => h i (by omega)
    obtain ⟨x, hx⟩ := h n (by omega)
    refine ⟨l ++ [x], by simp [hl], fun i hi => ?_⟩
    by_cases e : i = n
    · subst e
      have : nth (l ++ [x]) i = x := by subst hl; exact nth_append_new _ _
      rw [this]; exact hx
    · rw [nth_append_left _ _ _ (by omega)]; exact hp i (by omega)
theorem spot_of_cell {w : World} {a : Addr} {v : Value} (h : w.cell? a = some v) : a = ⟨a.block, a.off, none⟩ := by
  unfold World.cell? at h
  split at h
  · split at h
    · cases h
    · rename_i hs
      obtain ⟨b, o, s⟩ := a
      cases s with
      | none => rfl
      | some s => simp at hs
  · cases h
theorem Rd.of_cells {w : World} {size n : Nat} {a : Addr} {xs : List Value} (h0 : 0 < size) (hlen : xs.length = n * size) (hs : n ≤ 9223372036854775807) (hc : ∀ j, j < n * size → w.cell? (a.add j) = some (xs.getD j undef)) : Rd w size (some a) n xs := by
  rcases Nat.eq_zero_or_pos n with hn | hn
  · subst hn
    have : xs = [] := List.eq_nil_of_length_eq_zero (by simpa using hlen)
    subst this
    exact Rd.nil _ _ _
  · have h1 := hc 0 (Nat.mul_pos hn h0)
    have ha := spot_of_cell (a := a) (by simpa [Addr.add] using h1)
    refine ⟨hlen, .inr ⟨_, _, by rw [ha]⟩, hs, fun j hj => ?_⟩
    rw [← hc j hj]
    congr 1
    rw [ha, adr_some]
    by_cases hj0 : j = 0
    · subst hj0; simp [Addr.add]
    · simp [Addr.add, hj0]
section
variable {H : Type} {enc : TypeId × Value → H} {w : World} {base : Nat} {spare : Nat → Bool} {held : Bool}
theorem open_slice_fields {P : Program} {t e : TypeId} {fs : Array Field} {fuel : Nat} {cs : List Value} {x : DataW H × List MemPlace} (ht : P.underlying t = some (.slice e)) (he : P.underlying e = some (.struct fs))
    (hone : oneCellFields P fs = true) (hC : P.cellsOf e = fs.size) (h : DataW.trod enc P w base spare held fuel t cs = some x) :
    (cs = [.slice none 0 0]) ∨
    ∃ (a : Addr) (len cap : Nat), cs = [.slice (some a) len cap] ∧ len ≤ cap ∧ cap ≤ maxLen ∧
      ∀ i, i < len → ∀ (j : Nat) (f : Field), fs[j]? = some f → ∃ (v : Value) (y : DataW H × List MemPlace) (n : Nat), w.cell? (a.add (i * fs.size + j)) = some v ∧ DataW.trod enc P w base spare held n f.type [v] = some y := by
  rcases open_slice ht h with h0 | ⟨a, len, cap, m, n, D, Pl, hcs, hb, hl, hm, hmm, hx, hi⟩
  · exact .inl h0.1
  · refine .inr ⟨a, len, cap, hcs, hl, hm, fun i hil j f hj => ?_⟩
    obtain ⟨cs', hc, ht'⟩ := hi i (by rw [hmm]; split <;> omega)
    rw [hC] at hc
    obtain ⟨ys, n', hn', hy, hlen, hyl, hf⟩ := DataW.trod_struct he ht'
    obtain ⟨_, hcl, hat⟩ := World.cells?_some hc
    obtain ⟨ho, hk⟩ := hone_of hone j f hj
    have hjl : j < fs.size := (Array.getElem?_eq_some_iff.1 hj).1
    have hcell := hat j hjl
    have hv : cs'[j]? = some (cs'[j]'(by omega)) := List.getElem?_eq_getElem (by omega)
    have h1 := hf j f hj
    rw [ho, hk] at h1
    have hone' : (cs'.drop j).take 1 = [cs'[j]'(by omega)] := by
      rw [List.drop_eq_getElem_cons (by omega)]
      rfl
    rw [hone'] at h1
    have hys : ys[j]? = some (ys[j]'(by omega)) := List.getElem?_eq_getElem (by omega)
    refine ⟨_, _, _, ?_, h1.trans hys⟩
    rw [← Go.Deep.add_add, hcell, hv]
theorem open_texts {t : TypeId} {fuel : Nat} {v : Value} {x : DataW H × List MemPlace} (ht : Try.prog.underlying t = some (.slice 9)) (h : DataW.trod enc Try.prog w base spare held fuel t [v] = some x) :
    ∃ p n c l, v = .slice p n c ∧ Rd w 1 p n (encS l) := by
  rcases open_slice ht h with h0 | ⟨a, len, cap, m, n, D, Pl, hcs, hb, hl, hm, hmm, hx, hi⟩
  · obtain ⟨h0, _⟩ := h0; simp at h0; exact ⟨none, 0, 0, [], h0, Rd.nil _ _ _⟩
  · simp at hcs
    have hl2 : len ≤ 9223372036854775807 := by unfold maxLen at hm; omega
    have hc1 : Try.prog.cellsOf 9 = 1 := by kernel_rfl
    rw [hc1] at hi
    have hS : ∀ i, i < len → ∃ s : ByteArray, w.cell? (a.add i) = some (.string s) := by
      intro i hil
      obtain ⟨cs', hc, ht'⟩ := hi i (by rw [hmm]; split <;> omega)
      obtain ⟨s, e1, _⟩ := DataW.trod_string Try.underlying9 ht'
      obtain ⟨_, hcl, hat⟩ := World.cells?_some hc
      have := hat 0 (by decide)
      rw [Go.Deep.add_add, Nat.mul_one, Nat.add_zero, e1] at this
      exact ⟨s, this⟩
    obtain ⟨l, hll, hlc⟩ := exists_list hS
    refine ⟨some a, len, cap, l, hcs, Rd.of_cells (by decide) (by rw [encS_len, hll, Nat.mul_one]) hl2 fun j hj => ?_⟩
    rw [encS_get l j (by omega)]
    exact hlc j (by omega)
theorem open_rows {t : TypeId} {fuel : Nat} {v : Value} {x : DataW H × List MemPlace} (ht : Try.prog.underlying t = some (.slice 22)) (h : DataW.trod enc Try.prog w base spare held fuel t [v] = some x) :
    ∃ p n c hs W, v = .slice p n c ∧ RdW w p n hs W := by
  rcases open_slice ht h with h0 | ⟨a, len, cap, m, n, D, Pl, hcs, hb, hl, hm, hmm, hx, hi⟩
  · obtain ⟨h0, _⟩ := h0; simp at h0; exact ⟨none, 0, 0, [], [], h0, rfl, Rd.nil _ _ _, fun j hj => by omega⟩
  · simp at hcs
    have hl2 : len ≤ 9223372036854775807 := by unfold maxLen at hm; omega
    have hc1 : Try.prog.cellsOf 22 = 1 := by kernel_rfl
    rw [hc1] at hi
    have hS : ∀ i, i < len → ∃ q : Hd × List ByteArray, w.cell? (a.add i) = some (.slice q.1.p q.1.n q.1.c) ∧ Rd w 1 q.1.p q.1.n (encS q.2) := by
      intro i hil
      obtain ⟨cs', hc, ht'⟩ := hi i (by rw [hmm]; split <;> omega)
      obtain ⟨_, hcl, hat⟩ := World.cells?_some hc
      match cs', hcl with
      | [u], _ =>
        obtain ⟨p, n', c', l, e1, hr⟩ := open_texts Try.underlying22 ht'
        have := hat 0 (by decide)
        rw [Go.Deep.add_add, Nat.mul_one, Nat.add_zero, e1] at this
        exact ⟨(⟨p, n', c'⟩, l), this, hr⟩
    obtain ⟨l, hll, hlc⟩ := exists_list hS
    have hm : ∀ i, i < len → nth (l.map (·.1)) i = (nth l i).1 ∧ nth (l.map (·.2)) i = (nth l i).2 := fun i hil => by
      rw [nth_eq (l := l.map (·.1)) (by rw [List.length_map]; omega), nth_eq (l := l.map (·.2)) (by rw [List.length_map]; omega), nth_eq (l := l) (by omega)]; simp
    refine ⟨some a, len, cap, l.map (·.1), l.map (·.2), hcs, by simp, Rd.of_cells (by decide) (by rw [encH_len, List.length_map, hll, Nat.mul_one]) hl2 fun j hj => ?_, fun j hj => ?_⟩
    · rw [encH_get _ j (by simp; omega), (hm j (by omega)).1]
      exact (hlc j (by omega)).1
    · rw [(hm j hj).1, (hm j hj).2]
      exact (hlc j hj).2
end
end Go.Proofs.Ytkekibnhmfmhmaa
/- Arguments that are rows of numbers, of texts, of postings: what they read. -/
namespace Go.Proofs.Ytkekibnhmfmhmaa
open Go Go.RowKit Go.ChangeShapes Go.WideShapes Go.ChangeAt Go.Deep Go.Joins
section
variable {H : Type} {enc : TypeId × Value → H} {w : World} {base : Nat} {spare : Nat → Bool} {held : Bool}
theorem trod_ints {t : TypeId} {fuel : Nat} {v : Value} {x : DataW H × List MemPlace} (ht : Try.prog.underlying t = some (.slice 3)) (h : DataW.trod enc Try.prog w base spare held fuel t [v] = some x) :
    ∃ p n c l, v = .slice p n c ∧ n ≤ c ∧ Rd w 1 p n (encI l) ∧ ∀ x ∈ l, I64 x := by
  rcases open_slice ht h with h0 | ⟨a, len, cap, m, n, D, Pl, hcs, hb, hl, hm, hmm, hx, hi⟩
  · obtain ⟨h0, _⟩ := h0; simp at h0; exact ⟨none, 0, 0, [], h0, Nat.le_refl _, Rd.nil _ _ _, fun x hx => nomatch hx⟩
  · simp at hcs
    have hl2 : len ≤ 9223372036854775807 := by unfold maxLen at hm; omega
    have hc1 : Try.prog.cellsOf 3 = 1 := by kernel_rfl
    rw [hc1] at hi
    have hS : ∀ i, i < len → ∃ s : Int, w.cell? (a.add i) = some (.int .i64 s) ∧ I64 s := by
      intro i hil
      obtain ⟨cs', hc, ht'⟩ := hi i (by rw [hmm]; split <;> omega)
      obtain ⟨s, e1, _, hw⟩ := DataW.trod_int Try.underlying3 ht'
      obtain ⟨_, hcl, hat⟩ := World.cells?_some hc
      have := hat 0 (by decide)
      rw [Go.Deep.add_add, Nat.mul_one, Nat.add_zero, e1] at this
      exact ⟨s, this, hw⟩
    obtain ⟨l, hll, hlc⟩ := exists_list hS
    refine ⟨some a, len, cap, l, hcs, hl, Rd.of_cells (by decide) (by rw [encI_len, hll, Nat.mul_one]) hl2 fun j hj => ?_, fun x hx => ?_⟩
    · rw [encI_get l j (by omega)]
      exact (hlc j (by omega)).1
    · obtain ⟨j, hj, rfl⟩ := List.mem_iff_getElem.1 hx
      rw [← nth_eq hj]
      exact (hlc j (by omega)).2
theorem trod_texts {t : TypeId} {fuel : Nat} {v : Value} {x : DataW H × List MemPlace} (ht : Try.prog.underlying t = some (.slice 9)) (h : DataW.trod enc Try.prog w base spare held fuel t [v] = some x) :
    ∃ p n c l, v = .slice p n c ∧ n ≤ c ∧ Rd w 1 p n (encS l) := by
  obtain ⟨p, n, c, l, rfl, hr⟩ := open_texts ht h
  refine ⟨p, n, c, l, rfl, ?_, hr⟩
  rcases open_slice ht h with h0 | ⟨a, len, cap, m, n', D, Pl, hcs, hb, hl, _⟩
  · obtain ⟨h0, _⟩ := h0; simp at h0; omega
  · simp at hcs; omega
set_option maxRecDepth 100000 in
theorem trod_postings {t : TypeId} {fuel : Nat} {v : Value} {x : DataW H × List MemPlace} (ht : Try.prog.underlying t = some (.slice 79)) (h : DataW.trod enc Try.prog w base spare held fuel t [v] = some x) :
    ∃ p n c hs L, v = .slice p n c ∧ n ≤ c ∧ RdP w p n hs L ∧ ∀ q ∈ L, ∀ x ∈ q.2, I64 x := by
  rcases open_slice_fields ht Try.underlying79 (by kernel_rfl) (by kernel_rfl) h with h0 | ⟨a, len, cap, hcs, hl, hm, hi⟩
  · simp at h0; exact ⟨none, 0, 0, [], [], h0, Nat.le_refl _, ⟨rfl, .inl rfl, by omega, fun k hk => by omega, fun k hk => by omega, fun k hk => by omega⟩, fun q hq => nomatch hq⟩
  · simp at hcs
    have hl2 : len ≤ 9223372036854775807 := by unfold maxLen at hm; omega
    have hE : ∀ i, i < len → ∃ e : (ByteArray × List Int) × Hd, w.cell? (a.add (i * 2)) = some (.string e.1.1) ∧ w.cell? (a.add (i * 2 + 1)) = some (.slice e.2.p e.2.n e.2.c) ∧ Rd w 1 e.2.p e.2.n (encI e.1.2) ∧ ∀ x ∈ e.1.2, I64 x := by
      intro i hil
      obtain ⟨v1, y1, n1, c1, t1⟩ := hi i hil 0 _ rfl
      obtain ⟨v2, y2, n2, c2, t2⟩ := hi i hil 1 _ rfl
      obtain ⟨s, e1, _⟩ := DataW.trod_string Try.underlying9 t1
      obtain ⟨p, n', c', l, e2, _, hr, hI⟩ := trod_ints Try.underlying51 t2
      simp at e1
      subst e1 e2
      exact ⟨((s, l), ⟨p, n', c'⟩), c1, c2, hr, hI⟩
    obtain ⟨E, hEl, hEc⟩ := exists_list hE
    have hm : ∀ i, i < len → nth (E.map (·.1)) i = (nth E i).1 ∧ nth (E.map (·.2)) i = (nth E i).2 := fun i hil => by
      rw [nth_eq (l := E.map (·.1)) (by rw [List.length_map]; omega), nth_eq (l := E.map (·.2)) (by rw [List.length_map]; omega), nth_eq (l := E) (by omega)]; simp
    have hptr : SlP (some a) len := by
      rcases Nat.eq_zero_or_pos len with h0 | h0
      · exact .inl h0
      · have h1 := (hEc 0 h0).1
        exact .inr ⟨_, _, by rw [spot_of_cell (a := a) (by simpa [Addr.add] using h1)]⟩
    have hadr : ∀ i j, i < len → a.add (i * 2 + j) = adr (some a) (i * 2 + j) := by
      intro i j hil
      have h1 := (hEc 0 (by omega)).1
      have ha := spot_of_cell (a := a) (by simpa [Addr.add] using h1)
      generalize i * 2 + j = m
      rw [ha, adr_some]
      by_cases hj0 : m = 0
      · rw [hj0]; simp [Addr.add]
      · simp [Addr.add, hj0]
    refine ⟨some a, len, cap, E.map (·.2), E.map (·.1), hcs, hl, ⟨by simp [hEl], hptr, hl2, fun k hk => ?_, fun k hk => ?_, fun k hk => ?_⟩, fun q hq => ?_⟩
    · rw [(hm k hk).1, ← Nat.add_zero (k * 2), ← hadr k 0 hk]; exact (hEc k hk).1
    · rw [(hm k hk).2, ← hadr k 1 hk]; exact (hEc k hk).2.1
    · rw [(hm k hk).1, (hm k hk).2]; exact (hEc k hk).2.2.1
    · obtain ⟨e, he, rfl⟩ := List.mem_map.1 hq
      obtain ⟨j, hj, rfl⟩ := List.mem_iff_getElem.1 he
      rw [← nth_eq hj]
      exact (hEc j (by omega)).2.2.2
set_option maxRecDepth 100000 in
theorem open_top {t e : TypeId} {r : Reach} {b0 : Nat} {v : Value} {d : DataW H} {p : List MemPlace} (ht : Try.prog.underlying t = some (.slice e)) (hv : Value.okWide Try.prog w r b0 t v) (h : DataW.Trod enc Try.prog w base spare held t v d p) :
    ∃ fuel, DataW.trod enc Try.prog w base spare held fuel t [v] = some (d, p) := by
  obtain ⟨a, n, c, rfl⟩ := okWide_slice ht hv
  exact h
set_option maxRecDepth 100000 in
theorem open_introw {r : Reach} {b0 : Nat} {v : Value} {d : DataW H} {p : List MemPlace} (hv : Value.okWide Try.prog w r b0 51 v) (h : DataW.Trod enc Try.prog w base spare held 51 v d p) :
    ∃ p n c l, v = .slice p n c ∧ n ≤ c ∧ Rd w 1 p n (encI l) ∧ ∀ x ∈ l, I64 x := by
  obtain ⟨f, hf⟩ := open_top Try.underlying51 hv h
  exact trod_ints Try.underlying51 hf
set_option maxRecDepth 100000 in
theorem open_textrow {r : Reach} {b0 : Nat} {v : Value} {d : DataW H} {p : List MemPlace} (hv : Value.okWide Try.prog w r b0 22 v) (h : DataW.Trod enc Try.prog w base spare held 22 v d p) :
    ∃ p n c l, v = .slice p n c ∧ n ≤ c ∧ Rd w 1 p n (encS l) := by
  obtain ⟨f, hf⟩ := open_top Try.underlying22 hv h
  exact trod_texts Try.underlying22 hf
set_option maxRecDepth 100000 in
theorem open_postings {r : Reach} {b0 : Nat} {v : Value} {d : DataW H} {p : List MemPlace} (hv : Value.okWide Try.prog w r b0 42 v) (h : DataW.Trod enc Try.prog w base spare held 42 v d p) :
    ∃ p n c hs L, v = .slice p n c ∧ n ≤ c ∧ RdP w p n hs L ∧ ∀ q ∈ L, ∀ x ∈ q.2, I64 x := by
  obtain ⟨f, hf⟩ := open_top Try.underlying42 hv h
  exact trod_postings Try.underlying42 hf
end
end Go.Proofs.Ytkekibnhmfmhmaa
/- Arguments that are queries, states, messages: what they read. -/
namespace Go.Proofs.Ytkekibnhmfmhmaa
open Go Go.RowKit Go.ChangeShapes Go.WideShapes Go.ChangeAt Go.Deep Go.Joins
/-- numbers that ints hold -/
def Sq.I (x : Sq) : Prop := I64 x.s ∧ I64 x.r ∧ I64 x.v ∧ I64 x.d
section
variable {H : Type} {enc : TypeId × Value → H} {w : World} {base : Nat} {spare : Nat → Bool} {held : Bool}
set_option maxRecDepth 100000 in
theorem trod_Key {fuel : Nat} {cs : List Value} {x : DataW H × List MemPlace} (h : DataW.trod enc Try.prog w base spare held fuel 44 cs = some x) : ∃ a b c : Int, cs = [.int .i64 a, .int .i64 b, .int .i64 c] ∧ I64 a ∧ I64 b ∧ I64 c := by
  obtain ⟨xs, n, _, _, hl, hx, hg⟩ := DataW.trod_struct Try.underlying44 h
  have hc : Try.prog.cellsOf 44 = 3 := by kernel_rfl
  have hi : Try.prog.cellsOf 3 = 1 := by kernel_rfl
  rw [hc] at hl
  match cs, hl, xs, hx with
  | [c0, c1, c2], _, [y0, y1, y2], _ =>
    have t0 : DataW.trod enc Try.prog w base spare held n 3 [c0] = some y0 := by simpa [hi] using hg 0 _ rfl
    have t1 : DataW.trod enc Try.prog w base spare held n 3 [c1] = some y1 := by simpa [hi] using hg 1 _ rfl
    have t2 : DataW.trod enc Try.prog w base spare held n 3 [c2] = some y2 := by simpa [hi] using hg 2 _ rfl
    obtain ⟨a, e0, _, i0⟩ := DataW.trod_int Try.underlying3 t0
    obtain ⟨b, e1, _, i1⟩ := DataW.trod_int Try.underlying3 t1
    obtain ⟨c, e2, _, i2⟩ := DataW.trod_int Try.underlying3 t2
    simp at e0 e1 e2
    subst e0 e1 e2
    exact ⟨a, b, c, rfl, i0, i1, i2⟩
set_option maxRecDepth 100000 in
theorem trod_State {fuel : Nat} {cs : List Value} {x : DataW H × List MemPlace} (h : DataW.trod enc Try.prog w base spare held fuel 46 cs = some x) : ∃ q : Sq, cs = [.int .i64 q.s, .int .i64 q.r, .int .i64 q.v, .int .i64 q.d] ∧ q.I := by
  obtain ⟨xs, n, _, _, hl, hx, hg⟩ := DataW.trod_struct Try.underlying46 h
  have hc : Try.prog.cellsOf 46 = 4 := by kernel_rfl
  have hk : Try.prog.cellsOf 44 = 3 := by kernel_rfl
  have hi : Try.prog.cellsOf 3 = 1 := by kernel_rfl
  rw [hc] at hl
  match cs, hl, xs, hx with
  | [c0, c1, c2, c3], _, [y0, y1], _ =>
    have t0 : DataW.trod enc Try.prog w base spare held n 44 [c0, c1, c2] = some y0 := by simpa [hk] using hg 0 _ rfl
    have t1 : DataW.trod enc Try.prog w base spare held n 3 [c3] = some y1 := by simpa [hi] using hg 1 _ rfl
    obtain ⟨a, b, c, e0, i0, i1, i2⟩ := trod_Key t0
    obtain ⟨d, e1, _, i3⟩ := DataW.trod_int Try.underlying3 t1
    simp at e0 e1
    obtain ⟨rfl, rfl, rfl⟩ := e0
    subst e1
    exact ⟨⟨a, b, c, d⟩, rfl, i0, i1, i2, i3⟩
set_option maxRecDepth 100000 in
theorem trod_Mail {fuel : Nat} {cs : List Value} {x : DataW H × List MemPlace} (h : DataW.trod enc Try.prog w base spare held fuel 57 cs = some x) : ∃ q : Sq, cs = [.int .i64 q.s, .int .i64 q.r, .int .i64 q.v, .int .i64 q.d] ∧ q.I := by
  obtain ⟨xs, n, _, _, hl, hx, hg⟩ := DataW.trod_struct Try.underlying57 h
  have hc : Try.prog.cellsOf 57 = 4 := by kernel_rfl
  have hk : Try.prog.cellsOf 44 = 3 := by kernel_rfl
  have hi : Try.prog.cellsOf 3 = 1 := by kernel_rfl
  rw [hc] at hl
  match cs, hl, xs, hx with
  | [c0, c1, c2, c3], _, [y0, y1], _ =>
    have t0 : DataW.trod enc Try.prog w base spare held n 44 [c0, c1, c2] = some y0 := by simpa [hk] using hg 0 _ rfl
    have t1 : DataW.trod enc Try.prog w base spare held n 3 [c3] = some y1 := by simpa [hi] using hg 1 _ rfl
    obtain ⟨a, b, c, e0, i0, i1, i2⟩ := trod_Key t0
    obtain ⟨d, e1, _, i3⟩ := DataW.trod_int Try.underlying3 t1
    simp at e0 e1
    obtain ⟨rfl, rfl, rfl⟩ := e0
    subst e1
    exact ⟨⟨a, b, c, d⟩, rfl, i0, i1, i2, i3⟩
set_option maxRecDepth 100000 in
theorem open_State {r : Reach} {b0 : Nat} {v : Value} {d : DataW H} {p : List MemPlace} (hv : Value.okWide Try.prog w r b0 46 v) (h : DataW.Trod enc Try.prog w base spare held 46 v d p) : ∃ q : Sq, v = .agg #[.int .i64 q.s, .int .i64 q.r, .int .i64 q.v, .int .i64 q.d] ∧ q.I := by
  obtain ⟨cs, rfl, hsz⟩ := okWide_struct Try.underlying46 hv
  obtain ⟨fuel, hf⟩ := h
  obtain ⟨q, e, hq⟩ := trod_State hf
  refine ⟨q, ?_, hq⟩
  obtain ⟨l⟩ := cs
  simp [Value.cells] at e
  rw [e]
theorem adr_of_cell {a : Addr} {v : Value} {m : Nat} (h : w.cell? a = some v) : a.add m = adr (some a) m := by
  have ha := spot_of_cell h
  rw [ha, adr_some]
  by_cases hj0 : m = 0
  · rw [hj0]; simp [Addr.add]
  · simp [Addr.add, hj0]
set_option maxRecDepth 100000 in
theorem trod_States {t : TypeId} {fuel : Nat} {v : Value} {x : DataW H × List MemPlace} (ht : Try.prog.underlying t = some (.slice 46)) (h : DataW.trod enc Try.prog w base spare held fuel t [v] = some x) : ∃ p n c l, v = .slice p n c ∧ n ≤ c ∧ Rd w 4 p n (encQ l) ∧ ∀ q ∈ l, q.I := by
  rcases open_slice ht h with h0 | ⟨a, len, cap, m, n, D, Pl, hcs, hb, hl, hm, hmm, hx, hi⟩
  · obtain ⟨h0, _⟩ := h0; simp at h0; exact ⟨none, 0, 0, [], h0, Nat.le_refl _, Rd.nil _ _ _, fun x hx => nomatch hx⟩
  · simp at hcs
    have hl2 : len ≤ 9223372036854775807 := by unfold maxLen at hm; omega
    have hc1 : Try.prog.cellsOf 46 = 4 := by kernel_rfl
    rw [hc1] at hi
    have hS : ∀ i, i < len → ∃ q : Sq, (w.cell? (a.add (i * 4)) = some (.int .i64 q.s) ∧ w.cell? (a.add (i * 4 + 1)) = some (.int .i64 q.r) ∧ w.cell? (a.add (i * 4 + 2)) = some (.int .i64 q.v) ∧ w.cell? (a.add (i * 4 + 3)) = some (.int .i64 q.d)) ∧ q.I := by
      intro i hil
      obtain ⟨cs', hc, ht'⟩ := hi i (by rw [hmm]; split <;> omega)
      obtain ⟨q, e1, hq⟩ := trod_State ht'
      obtain ⟨_, hcl, hat⟩ := World.cells?_some hc
      subst e1
      have h0 := hat 0 (by decide)
      have h1 := hat 1 (by decide)
      have h2 := hat 2 (by decide)
      have h3 := hat 3 (by decide)
      rw [Go.Deep.add_add] at h0 h1 h2 h3
      exact ⟨q, ⟨h0, h1, h2, h3⟩, hq⟩
    obtain ⟨l, hll, hlc⟩ := exists_list hS
    refine ⟨some a, len, cap, l, hcs, hl, Rd.of_cells (by decide) (by rw [encQ_len, hll]) hl2 fun j hj => ?_, fun x hx => ?_⟩
    · have hd : j / 4 < len := by omega
      obtain ⟨g1, g2, g3, g4⟩ := encQ_get l (j / 4) (by omega)
      obtain ⟨⟨h1, h2, h3, h4⟩, _⟩ := hlc (j / 4) hd
      have hm2 : j = j / 4 * 4 ∨ j = j / 4 * 4 + 1 ∨ j = j / 4 * 4 + 2 ∨ j = j / 4 * 4 + 3 := by omega
      rcases hm2 with e | e | e | e
      · rw [e, g1]; exact h1
      · rw [e, g2]; exact h2
      · rw [e, g3]; exact h3
      · rw [e, g4]; exact h4
    · obtain ⟨j, hj, rfl⟩ := List.mem_iff_getElem.1 hx
      rw [← nth_eq hj]
      exact (hlc j (by omega)).2
set_option maxRecDepth 100000 in
theorem trod_Mails {t : TypeId} {fuel : Nat} {v : Value} {x : DataW H × List MemPlace} (ht : Try.prog.underlying t = some (.slice 57)) (h : DataW.trod enc Try.prog w base spare held fuel t [v] = some x) : ∃ p n c l, v = .slice p n c ∧ n ≤ c ∧ Rd w 4 p n (encQ l) ∧ ∀ q ∈ l, q.I := by
  rcases open_slice ht h with h0 | ⟨a, len, cap, m, n, D, Pl, hcs, hb, hl, hm, hmm, hx, hi⟩
  · obtain ⟨h0, _⟩ := h0; simp at h0; exact ⟨none, 0, 0, [], h0, Nat.le_refl _, Rd.nil _ _ _, fun x hx => nomatch hx⟩
  · simp at hcs
    have hl2 : len ≤ 9223372036854775807 := by unfold maxLen at hm; omega
    have hc1 : Try.prog.cellsOf 57 = 4 := by kernel_rfl
    rw [hc1] at hi
    have hS : ∀ i, i < len → ∃ q : Sq, (w.cell? (a.add (i * 4)) = some (.int .i64 q.s) ∧ w.cell? (a.add (i * 4 + 1)) = some (.int .i64 q.r) ∧ w.cell? (a.add (i * 4 + 2)) = some (.int .i64 q.v) ∧ w.cell? (a.add (i * 4 + 3)) = some (.int .i64 q.d)) ∧ q.I := by
      intro i hil
      obtain ⟨cs', hc, ht'⟩ := hi i (by rw [hmm]; split <;> omega)
      obtain ⟨q, e1, hq⟩ := trod_Mail ht'
      obtain ⟨_, hcl, hat⟩ := World.cells?_some hc
      subst e1
      have h0 := hat 0 (by decide)
      have h1 := hat 1 (by decide)
      have h2 := hat 2 (by decide)
      have h3 := hat 3 (by decide)
      rw [Go.Deep.add_add] at h0 h1 h2 h3
      exact ⟨q, ⟨h0, h1, h2, h3⟩, hq⟩
    obtain ⟨l, hll, hlc⟩ := exists_list hS
    refine ⟨some a, len, cap, l, hcs, hl, Rd.of_cells (by decide) (by rw [encQ_len, hll]) hl2 fun j hj => ?_, fun x hx => ?_⟩
    · have hd : j / 4 < len := by omega
      obtain ⟨g1, g2, g3, g4⟩ := encQ_get l (j / 4) (by omega)
      obtain ⟨⟨h1, h2, h3, h4⟩, _⟩ := hlc (j / 4) hd
      have hm2 : j = j / 4 * 4 ∨ j = j / 4 * 4 + 1 ∨ j = j / 4 * 4 + 2 ∨ j = j / 4 * 4 + 3 := by omega
      rcases hm2 with e | e | e | e
      · rw [e, g1]; exact h1
      · rw [e, g2]; exact h2
      · rw [e, g3]; exact h3
      · rw [e, g4]; exact h4
    · obtain ⟨j, hj, rfl⟩ := List.mem_iff_getElem.1 hx
      rw [← nth_eq hj]
      exact (hlc j (by omega)).2
set_option maxRecDepth 100000 in
theorem open_States {r : Reach} {b0 : Nat} {v : Value} {d : DataW H} {p : List MemPlace} (hv : Value.okWide Try.prog w r b0 33 v) (h : DataW.Trod enc Try.prog w base spare held 33 v d p) : ∃ p n c l, v = .slice p n c ∧ n ≤ c ∧ Rd w 4 p n (encQ l) ∧ ∀ q ∈ l, q.I := by
  obtain ⟨f, hf⟩ := open_top Try.underlying33 hv h
  exact trod_States Try.underlying33 hf
set_option maxRecDepth 100000 in
theorem open_Mails {r : Reach} {b0 : Nat} {v : Value} {d : DataW H} {p : List MemPlace} (hv : Value.okWide Try.prog w r b0 29 v) (h : DataW.Trod enc Try.prog w base spare held 29 v d p) : ∃ p n c l, v = .slice p n c ∧ n ≤ c ∧ Rd w 4 p n (encQ l) ∧ ∀ q ∈ l, q.I := by
  obtain ⟨f, hf⟩ := open_top Try.underlying29 hv h
  exact trod_Mails Try.underlying29 hf
set_option maxRecDepth 100000 in
/-- a query by value -/
theorem open_query {r : Reach} {b0 : Nat} {v : Value} {d : DataW H} {p : List MemPlace} (hv : Value.okWide Try.prog w r b0 24 v) (h : DataW.Trod enc Try.prog w base spare held 24 v d p) :
    ∃ k f t pw nw cw ws rad most, v = .agg #[.int .i64 k, .int .i64 f, .int .i64 t, .slice pw nw cw, .int .i64 rad, .int .i64 most] ∧ nw ≤ cw ∧ Rd w 1 pw nw (encS ws) ∧ (I64 k ∧ I64 f ∧ I64 t) ∧ I64 rad ∧ I64 most := by
  obtain ⟨cs, rfl, hsz⟩ := okWide_struct Try.underlying24 hv
  obtain ⟨fuel, hf⟩ := h
  obtain ⟨xs, n, _, _, hl, hx, hg⟩ := DataW.trod_struct Try.underlying24 hf
  have hc : Try.prog.cellsOf 24 = 6 := by kernel_rfl
  have hi : Try.prog.cellsOf 3 = 1 := by kernel_rfl
  have hs : Try.prog.cellsOf 22 = 1 := by kernel_rfl
  rw [hc] at hsz
  obtain ⟨l⟩ := cs
  match l, hsz, xs, hx with
  | [c0, c1, c2, c3, c4, c5], _, [y0, y1, y2, y3, y4, y5], _ =>
    have t0 : DataW.trod enc Try.prog w base spare held n 3 [c0] = some y0 := by simpa [hi, Value.cells] using hg 0 _ rfl
    have t1 : DataW.trod enc Try.prog w base spare held n 3 [c1] = some y1 := by simpa [hi, Value.cells] using hg 1 _ rfl
    have t2 : DataW.trod enc Try.prog w base spare held n 3 [c2] = some y2 := by simpa [hi, Value.cells] using hg 2 _ rfl
    have t3 : DataW.trod enc Try.prog w base spare held n 22 [c3] = some y3 := by simpa [hs, Value.cells] using hg 3 _ rfl
    have t4 : DataW.trod enc Try.prog w base spare held n 3 [c4] = some y4 := by simpa [hi, Value.cells] using hg 4 _ rfl
    have t5 : DataW.trod enc Try.prog w base spare held n 3 [c5] = some y5 := by simpa [hi, Value.cells] using hg 5 _ rfl
    obtain ⟨a0, e0, _, i0⟩ := DataW.trod_int Try.underlying3 t0
    obtain ⟨a1, e1, _, i1⟩ := DataW.trod_int Try.underlying3 t1
    obtain ⟨a2, e2, _, i2⟩ := DataW.trod_int Try.underlying3 t2
    obtain ⟨pw, nw, cw, ws, rfl, hn, hr⟩ := trod_texts Try.underlying22 t3
    obtain ⟨a4, e4, _, i4⟩ := DataW.trod_int Try.underlying3 t4
    obtain ⟨a5, e5, _, i5⟩ := DataW.trod_int Try.underlying3 t5
    simp at e0 e1 e2 e4 e5
    subst e0 e1 e2 e4 e5
    exact ⟨a0, a1, a2, pw, nw, cw, ws, a4, a5, rfl, hn, hr, ⟨i0, i1, i2⟩, i4, i5⟩
end
end Go.Proofs.Ytkekibnhmfmhmaa
/- The law ProgHits: a query of the kind 3 that is done tells hits that come one ahead of the other, at most Most, each of a state. -/
namespace Go.Proofs.Ytkekibnhmfmhmaa
open Go Go.RowKit
/-- what hits are -/
def HitOk (l : List Sq) (most : Int) (F : List (Int × Int)) : Prop := SortsN F ∧ ((F.length : Int) ≤ max most 0) ∧ (∀ h ∈ F, ∃ x ∈ l, x.r = 0 ∧ x.v = h.1 ∧ x.d = h.2) ∧ F.length ≤ l.length
theorem nearS_ok (l : List Sq) (P : List Int) (most : Int) : HitOk l most (nearS l P most) :=
  ⟨firstN_sorts _ _, (firstN_len _ _).2, fun _ hh => hitS_mem (firstN_mem hh), Nat.le_trans (firstN_len _ _).1 (hitS_len _ _)⟩
theorem nil_ok (l : List Sq) (most : Int) : HitOk l most [] := ⟨List.Pairwise.nil, by simp; omega, fun _ h => (List.not_mem_nil h).elim, Nat.zero_le _⟩
theorem Done3x (f t : Int) (pw : Option Addr) (nw cw : Nat) (ws : List ByteArray) (rad most : Int) (pp : Option Addr) (np cp : Nat) (hs : List Hd) (L : List Po) (p : Option Addr) (n c : Nat) (l : List Sq) (pm : Option Addr) (nm cm : Nat) (w : World) (hL : RdP w pp np hs L) (hok : PoOk L) (hw : Rd w 1 pw nw (encS ws)) (hcw : nw ≤ cw) (hnw : nw ≤ 100) (hl : Rd w 4 p n (encQ l)) (hn : n ≤ 1000) :
    Calls Try.prog 14 #[.agg #[.int .i64 3, .int .i64 f, .int .i64 t, .slice pw nw cw, .int .i64 rad, .int .i64 most], .slice pp np cp, .slice p n c, .slice pm nm cm] w fun e w' => ∃ q c' F, e = .returned (.tuple #[.agg #[.bool (decide (0 < F.length)), .int .i64 0, .slice q F.length c'], .bool (decide (nm = 0))]) ∧ Sep w w' [.own 48 2 q F.length c' (encE F)] ∧ HitOk l most F := by
  by_cases h0 : nm = 0
  · refine (Done3 f t pw nw cw ws rad most pp np cp hs L p n c l pm nm cm w hL hok hw hcw hnw hl hn h0).mono ?_
    rintro e w' ⟨q, c', rfl, S⟩
    exact ⟨q, c', _, by rw [decide_eq_true h0], S, nearS_ok _ _ _⟩
  · refine (Done3m f t pw nw cw rad most pp np cp p n c pm nm cm w (by omega)).mono ?_
    rintro e w' ⟨rfl, hE⟩
    exact ⟨none, 0, [], by rw [decide_eq_false h0]; rfl, ((Sep.start w).call hE).nilrow _ _, nil_ok _ _⟩
theorem DoneNo (k f t : Int) (pw : Option Addr) (nw cw : Nat) (rad most : Int) (pp : Option Addr) (np cp : Nat) (p : Option Addr) (n c : Nat) (l : List Sq) (pm : Option Addr) (nm cm : Nat) (M : List Sq) (w : World) (hk : k ≠ 3) (hl : Rd w 4 p n (encQ l)) (hM : Rd w 4 pm nm (encQ M)) (hi : ∀ x ∈ l, x.I) (hb : ∀ x ∈ l, -1000000 ≤ x.d ∧ x.d ≤ 1000000) (hn : n ≤ 1000000) (ht : I64 t) :
    Calls Try.prog 14 #[.agg #[.int .i64 k, .int .i64 f, .int .i64 t, .slice pw nw cw, .int .i64 rad, .int .i64 most], .slice pp np cp, .slice p n c, .slice pm nm cm] w fun e w' => ∃ b d dn, e = .returned (.tuple #[.agg #[.bool b, .int .i64 d, .slice none 0 0], .bool dn]) ∧ Ext w w' := by
  have hi2 : ∀ x ∈ l, I64 x.v ∧ I64 x.d := fun x hx => ⟨(hi x hx).2.2.1, (hi x hx).2.2.2⟩
  by_cases h1 : k = 1
  · subst h1
    exact (Done1 f t pw nw cw rad most pp np cp p n c l pm nm cm M w hl hM hi2 hb hn).mono fun e w' ⟨b, d, h, hE, _⟩ => ⟨b, d, _, h, hE⟩
  · by_cases h2 : k = 2
    · subst h2
      exact (Done2 f t pw nw cw rad most pp np cp p n c l pm nm cm w hl hi2 hn ht).mono fun e w' ⟨h, hE⟩ => ⟨_, _, _, h, hE⟩
    · exact (Done0 k f t pw nw cw rad most pp np cp p n c pm nm cm w h1 h2 hk).mono fun e w' ⟨h, hE⟩ => ⟨_, _, _, h, hE⟩
def matchB (h : Int × Int) (x : Sq) : Bool := x.r == 0 && x.v == h.1 && x.d == h.2
theorem any_succ {l : List Sq} {g : Sq → Bool} {k : Nat} (hk : k < l.length) : (l.take (k + 1)).any g = ((l.take k).any g || g (nth l k)) := by
  rw [take_succ_nth l k hk, List.any_append]; simp
set_option maxRecDepth 100000 in
set_option maxHeartbeats 16000000 in
theorem lawHits18 (k f t : Int) (pw : Option Addr) (nw cw : Nat) (ws : List ByteArray) (rad most : Int) (pp : Option Addr) (np cp : Nat) (hs : List Hd) (L : List Po) (px : Option Addr) (nx cx : Nat) (l : List Sq) (pm : Option Addr) (nm cm : Nat) (M : List Sq) (w : World) (hw : Rd w 1 pw nw (encS ws)) (hcw : nw ≤ cw) (ht : I64 t) (hL : RdP w pp np hs L) (hLI : ∀ q ∈ L, ∀ x ∈ q.2, I64 x) (hX : Rd w 4 px nx (encQ l)) (hxI : ∀ x ∈ l, x.I) (hM : Rd w 4 pm nm (encQ M)) :
    Calls Try.prog 5 #[.agg #[.int .i64 k, .int .i64 f, .int .i64 t, .slice pw nw cw, .int .i64 rad, .int .i64 most], .slice pp np cp, .slice px nx cx, .slice pm nm cm] w fun e w' => e = .returned (.bool true) ∧ Ext w w' := by
  have S0 := Lib.hid ((Sep.start w).al #[.int .i64 k, .int .i64 f, .int .i64 t, .slice pw nw cw, .int .i64 rad, .int .i64 most] 24 w.heap.size rfl)
  have HBG := Lib.hid (fun W (h : Ext w W) => BigQ k f t pw nw cw ws rad most W (hw.ext h))
  have HFR := Lib.hid (fun W (h : Ext w W) => FarS pp np cp hs L px nx cx pm nm cm W (hL.ext h))
  have HC1 := Lib.hid (fun W (h : Ext w W) => CleanQ px nx cx l W (hX.ext h))
  cases hbig : bigQ ws with
  | true =>
    rw [hbig] at HBG
    clear hw hX hL hM hbig
    go_enter Try.func5, Try.ntmps5
    go_wp2_with (first | (go_at_call 13; go_must (refine (HC1.out _ S2.out.ext).mono ?_; rintro e w3 ⟨rfl, hw3⟩; have hw3 := hw3.symm; subst hw3)) | (go_at_call 12; go_must (refine (HFR.out _ S1.out.ext).mono ?_; rintro e w2 ⟨rfl, hb⟩; have S2 := Lib.hid (S1.out.call hb); clear a0 a1 a2 a3 a4 a5 az; have a0 := (S2.out.blk 0 rfl).cell 0; have a1 := (S2.out.blk 0 rfl).cell 1; have a2 := (S2.out.blk 0 rfl).cell 2; have a3 := (S2.out.blk 0 rfl).cell 3; have a4 := (S2.out.blk 0 rfl).cell 4; have a5 := (S2.out.blk 0 rfl).cell 5; have az := (S2.out.blk 0 rfl).lt; clear hb)) | (go_at_call 7; go_must (refine (HBG.out _ S0.out.ext).mono ?_; rintro e w1 ⟨rfl, hb⟩; have S1 := Lib.hid (S0.out.call hb); have a0 := (S1.out.blk 0 rfl).cell 0; have a1 := (S1.out.blk 0 rfl).cell 1; have a2 := (S1.out.blk 0 rfl).cell 2; have a3 := (S1.out.blk 0 rfl).cell 3; have a4 := (S1.out.blk 0 rfl).cell 4; have a5 := (S1.out.blk 0 rfl).cell 5; have az := (S1.out.blk 0 rfl).lt; clear hb)))
    go_ret
    exact ⟨rfl, S1.out.ext⟩
  | false =>
    rw [hbig] at HBG
    cases hfar : farS L nx nm with
    | true =>
      rw [hfar] at HFR
      clear hw hX hL hM hbig hfar
      go_enter Try.func5, Try.ntmps5
      go_wp2_with (first | (go_at_call 13; go_must (refine (HC1.out _ S2.out.ext).mono ?_; rintro e w3 ⟨rfl, hw3⟩; have hw3 := hw3.symm; subst hw3)) | (go_at_call 12; go_must (refine (HFR.out _ S1.out.ext).mono ?_; rintro e w2 ⟨rfl, hb⟩; have S2 := Lib.hid (S1.out.call hb); clear a0 a1 a2 a3 a4 a5 az; have a0 := (S2.out.blk 0 rfl).cell 0; have a1 := (S2.out.blk 0 rfl).cell 1; have a2 := (S2.out.blk 0 rfl).cell 2; have a3 := (S2.out.blk 0 rfl).cell 3; have a4 := (S2.out.blk 0 rfl).cell 4; have a5 := (S2.out.blk 0 rfl).cell 5; have az := (S2.out.blk 0 rfl).lt; clear hb)) | (go_at_call 7; go_must (refine (HBG.out _ S0.out.ext).mono ?_; rintro e w1 ⟨rfl, hb⟩; have S1 := Lib.hid (S0.out.call hb); have a0 := (S1.out.blk 0 rfl).cell 0; have a1 := (S1.out.blk 0 rfl).cell 1; have a2 := (S1.out.blk 0 rfl).cell 2; have a3 := (S1.out.blk 0 rfl).cell 3; have a4 := (S1.out.blk 0 rfl).cell 4; have a5 := (S1.out.blk 0 rfl).cell 5; have az := (S1.out.blk 0 rfl).lt; clear hb)))
      go_ret
      exact ⟨rfl, S2.out.ext⟩
    | false =>
      rw [hfar] at HFR
      cases hc1 : cleanB l with
      | false =>
        rw [hc1] at HC1
        clear hw hX hL hM hbig hfar hc1
        go_enter Try.func5, Try.ntmps5
        go_wp2_with (first | (go_at_call 13; go_must (refine (HC1.out _ S2.out.ext).mono ?_; rintro e w3 ⟨rfl, hw3⟩; have hw3 := hw3.symm; subst hw3)) | (go_at_call 12; go_must (refine (HFR.out _ S1.out.ext).mono ?_; rintro e w2 ⟨rfl, hb⟩; have S2 := Lib.hid (S1.out.call hb); clear a0 a1 a2 a3 a4 a5 az; have a0 := (S2.out.blk 0 rfl).cell 0; have a1 := (S2.out.blk 0 rfl).cell 1; have a2 := (S2.out.blk 0 rfl).cell 2; have a3 := (S2.out.blk 0 rfl).cell 3; have a4 := (S2.out.blk 0 rfl).cell 4; have a5 := (S2.out.blk 0 rfl).cell 5; have az := (S2.out.blk 0 rfl).lt; clear hb)) | (go_at_call 7; go_must (refine (HBG.out _ S0.out.ext).mono ?_; rintro e w1 ⟨rfl, hb⟩; have S1 := Lib.hid (S0.out.call hb); have a0 := (S1.out.blk 0 rfl).cell 0; have a1 := (S1.out.blk 0 rfl).cell 1; have a2 := (S1.out.blk 0 rfl).cell 2; have a3 := (S1.out.blk 0 rfl).cell 3; have a4 := (S1.out.blk 0 rfl).cell 4; have a5 := (S1.out.blk 0 rfl).cell 5; have az := (S1.out.blk 0 rfl).lt; clear hb)))
        go_ret
        exact ⟨rfl, S2.out.ext⟩
      | true =>
        rw [hc1] at HC1
        have hb1 := clean_facts hc1
        obtain ⟨hwl, _⟩ := bigQ_no hbig
        have hnw : nw ≤ 20 := by rw [hw.nS]; exact hwl
        have hfar2 := hfar
        unfold farS at hfar2
        rw [Bool.or_eq_false_iff, Bool.or_eq_false_iff, decide_eq_false_iff_not] at hfar2
        have hnx : nx ≤ 60 := by omega
        by_cases hk : k = 3
        · subst hk
          have hok := poOk_of hfar2.1 hLI
          have HD := Lib.hid (fun W (h : Ext w W) => Done3x f t pw nw cw ws rad most pp np cp hs L px nx cx l pm nm cm W (hL.ext h) hok (hw.ext h) hcw (by omega) (hX.ext h) (by omega))
          have HX := Lib.hid hX
          have LX := Lib.hid hX.nQ
          have pX := hX.ptr
          have sX := hX.small
          clear hw hX hL hM hbig hfar hc1 hfar2 hok hb1 hLI
          go_enter Try.func5, Try.ntmps5
          go_wp2_with (first | (go_at_call 14; go_must (refine (HD.out _ S2.out.ext).mono ?_; rintro e w4 ⟨q, d, F, rfl, Z, hF⟩; have HFO := Lib.hid hF; have S4 := Lib.hid ((S2.out.comp Z).al #[.bool (decide (0 < F.length)), .int .i64 0, .slice q F.length d] 38 w4.heap.size rfl); clear a0 a1 a2 a3 a4 a5 az; have a0 := (S4.out.blk 2 rfl).cell 0; have a1 := (S4.out.blk 2 rfl).cell 1; have a2 := (S4.out.blk 2 rfl).cell 2; have a3 := (S4.out.blk 2 rfl).cell 3; have a4 := (S4.out.blk 2 rfl).cell 4; have a5 := (S4.out.blk 2 rfl).cell 5; have az := (S4.out.blk 2 rfl).lt; clear Z hF)) | (go_at_call 13; go_must (refine (HC1.out _ S2.out.ext).mono ?_; rintro e w3 ⟨rfl, hw3⟩; have hw3 := hw3.symm; subst hw3)) | (go_at_call 12; go_must (refine (HFR.out _ S1.out.ext).mono ?_; rintro e w2 ⟨rfl, hb⟩; have S2 := Lib.hid (S1.out.call hb); clear a0 a1 a2 a3 a4 a5 az; have a0 := (S2.out.blk 0 rfl).cell 0; have a1 := (S2.out.blk 0 rfl).cell 1; have a2 := (S2.out.blk 0 rfl).cell 2; have a3 := (S2.out.blk 0 rfl).cell 3; have a4 := (S2.out.blk 0 rfl).cell 4; have a5 := (S2.out.blk 0 rfl).cell 5; have az := (S2.out.blk 0 rfl).lt; clear hb)) | (go_at_call 7; go_must (refine (HBG.out _ S0.out.ext).mono ?_; rintro e w1 ⟨rfl, hb⟩; have S1 := Lib.hid (S0.out.call hb); have a0 := (S1.out.blk 0 rfl).cell 0; have a1 := (S1.out.blk 0 rfl).cell 1; have a2 := (S1.out.blk 0 rfl).cell 2; have a3 := (S1.out.blk 0 rfl).cell 3; have a4 := (S1.out.blk 0 rfl).cell 4; have a5 := (S1.out.blk 0 rfl).cell 5; have az := (S1.out.blk 0 rfl).lt; clear hb)))
          obtain ⟨hf1, hf2, hf3, hf4⟩ := HFO.out
          have HF1 := Lib.hid hf1
          have HF3 : Hid (∀ j, j < F.length → l.any (matchB (nth F j)) = true) := fun j hj => by
            obtain ⟨x, hx, h1, h2, h3⟩ := hf3 (nth F j) (by rw [nth_eq hj]; exact List.getElem_mem _)
            exact List.any_eq_true.2 ⟨x, hx, by unfold matchB; rw [h1, h2, h3]; simp⟩
          have hfl : F.length ≤ 60 := by have := LX.out; omega
          have HF2 := Lib.hid hf2
          have HAH := Lib.hid (fun a b W => Ahead09 a b W)
          clear HFO hf1 hf2 hf3 hf4 S0 S1 S2 HBG HFR HC1 HD a0 a1 a2 a3 a4 a5 az
          go_loopw [11, 12, 13] (fun i _ _ wr => ∃ j : Nat, j ≤ F.length ∧ i = .int .i64 j ∧ Sep w wr [.blk w4.heap.size 38 #[.bool (decide (0 < F.length)), .int .i64 0, .slice q F.length d], .own 48 2 q F.length d (encE F), .blk w.heap.size 24 #[.int .i64 3, .int .i64 f, .int .i64 t, .slice pw nw cw, .int .i64 rad, .int .i64 most]]) (fun i _ _ _ => F.length - (intOf i).toNat)
          case atStart => exact ⟨0, Nat.zero_le _, rfl, S4.out⟩
          case round =>
            clear S4
            obtain ⟨j, hj, rfl, S⟩ := hrel
            have r0 := (S.blk 0 rfl).cell 0
            have r1 := (S.blk 0 rfl).cell 1
            have r2 := (S.blk 0 rfl).cell 2
            have rz := (S.blk 0 rfl).lt
            have a5 := (S.blk 2 rfl).cell 5
            have az := (S.blk 2 rfl).lt
            by_cases hlt : j < F.length
            · have HAN := Lib.hid (HF3.out j hlt)
              obtain ⟨h, hh⟩ : ∃ h, nth F j = h := ⟨_, rfl⟩
              have HHH := Lib.hid hh
              rw [hh] at HAN
              have d1 : (0:Int) ≤ j := by omega
              have d2 : (j:Int) < F.length := by omega
              clear hh
              have SH := Lib.hid S; clear S
              go_wp2
              clear r0 r1 r2 rz a5 az
              go_loopw [12, 13] (fun b i wr => ∃ m : Nat, m ≤ nx ∧ i = .int .i64 m ∧ b = .bool ((l.take m).any (matchB h)) ∧ Sep w wr [.blk w4.heap.size 38 #[.bool (decide (0 < F.length)), .int .i64 0, .slice q F.length d], .own 48 2 q F.length d (encE F), .blk w.heap.size 24 #[.int .i64 3, .int .i64 f, .int .i64 t, .slice pw nw cw, .int .i64 rad, .int .i64 most]]) (fun _ i _ => nx - (intOf i).toNat)
              case atStart => exact ⟨0, Nat.zero_le _, rfl, rfl, SH.out⟩
              case round =>
                clear SH
                obtain ⟨m, hm, rfl, rfl, S⟩ := hrel
                have r2 := (S.blk 0 rfl).cell 2
                have rz := (S.blk 0 rfl).lt
                have hr := S.rdx 1 rfl
                have q1 := hr.cE hlt
                have q2 := hr.cE2 hlt
                have p1 := hr.ptr
                rw [HHH.out] at q1 q2
                clear hr
                by_cases hml : m < nx
                · obtain ⟨g1, g2, g3, g4⟩ := (HX.out.ext S.ext).cQ hml
                  have HS := Lib.hid (any_succ (g := matchB h) (show m < l.length by rw [← LX.out]; exact hml))
                  have d3 : (0:Int) ≤ m := by omega
                  have d4 : (m:Int) < nx := by omega
                  have SH := Lib.hid S; clear S
                  generalize nth l m = x at *
                  generalize (l.take m).any (matchB h) = bb at *
                  have z2 := fun x : ExtOf wr => x.ext.cell g2
                  have z3 := fun x : ExtOf wr => x.ext.cell g3
                  have z4 := fun x : ExtOf wr => x.ext.cell g4
                  have y2 := fun x : ExtOf wr => x.ext.cell r2
                  have u1 := fun x : ExtOf wr => x.ext.cell q1
                  have u2 := fun x : ExtOf wr => x.ext.cell q2
                  cases bb with
                  | true =>
                    have HN : Hid ((l.take (m + 1)).any (matchB h) = true) := HS.out
                    clear HS
                    go_wp2
                    refine wp_region_ext (by kernel_rfl) (by kernel_rfl) ?_
                    repeat (go_big_quiet_step ((fail)))
                    refine wpQuiet_nil ?_
                    rintro w9 ⟨⟨_, hb9⟩, rfl⟩
                    have S9 := Lib.hid (SH.out.call hb9)
                    clear z2 z3 z4 y2 u1 u2
                    go_wp2
                    go_roundw
                    case rel => exact ⟨m + 1, by omega, by go_num, by rw [HN.out], S9.out⟩
                    case measure => simp [intOf]; omega
                  | false =>
                    by_cases x1 : x.r = 0
                    · have e1 : (x.r == 0) = true := by simpa using x1
                      by_cases x2 : x.v = h.1
                      · have e2 : (x.v == h.1) = true := by simpa using x2
                        by_cases x3 : x.d = h.2
                        · have e3 : (x.d == h.2) = true := by simpa using x3
                          have HN : Hid ((l.take (m + 1)).any (matchB h) = true) := HS.out.trans (by unfold matchB; rw [e1, e2, e3]; rfl)
                          clear x1 x2 x3
                          clear HS
                          go_wp2
                          refine wp_region_ext (by kernel_rfl) (by kernel_rfl) ?_
                          repeat (go_big_quiet_step ((fail)))
                          refine wpQuiet_nil ?_
                          rintro w9 ⟨⟨_, hb9⟩, rfl⟩
                          have S9 := Lib.hid (SH.out.call hb9)
                          clear z2 z3 z4 y2 u1 u2
                          go_wp2
                          go_roundw
                          case rel => exact ⟨m + 1, by omega, by go_num, by rw [HN.out], S9.out⟩
                          case measure => simp [intOf]; omega
                        · have e3 : (x.d == h.2) = false := by simpa using x3
                          have HN : Hid ((l.take (m + 1)).any (matchB h) = false) := HS.out.trans (by unfold matchB; rw [e1, e2, e3]; rfl)
                          clear x1 x2 x3
                          clear HS
                          go_wp2
                          refine wp_region_ext (by kernel_rfl) (by kernel_rfl) ?_
                          repeat (go_big_quiet_step ((fail)))
                          refine wpQuiet_nil ?_
                          rintro w9 ⟨⟨_, hb9⟩, rfl⟩
                          have S9 := Lib.hid (SH.out.call hb9)
                          clear z2 z3 z4 y2 u1 u2
                          go_wp2
                          go_roundw
                          case rel => exact ⟨m + 1, by omega, by go_num, by rw [HN.out], S9.out⟩
                          case measure => simp [intOf]; omega
                      · have e2 : (x.v == h.1) = false := by simpa using x2
                        have HN : Hid ((l.take (m + 1)).any (matchB h) = false) := HS.out.trans (by unfold matchB; rw [e1, e2]; rfl)
                        clear x1 x2
                        clear HS
                        go_wp2
                        refine wp_region_ext (by kernel_rfl) (by kernel_rfl) ?_
                        repeat (go_big_quiet_step ((fail)))
                        refine wpQuiet_nil ?_
                        rintro w9 ⟨⟨_, hb9⟩, rfl⟩
                        have S9 := Lib.hid (SH.out.call hb9)
                        clear z2 z3 z4 y2 u1 u2
                        go_wp2
                        go_roundw
                        case rel => exact ⟨m + 1, by omega, by go_num, by rw [HN.out], S9.out⟩
                        case measure => simp [intOf]; omega
                    · have e1 : (x.r == 0) = false := by simpa using x1
                      have HN : Hid ((l.take (m + 1)).any (matchB h) = false) := HS.out.trans (by unfold matchB; rw [e1]; rfl)
                      clear x1
                      clear HS
                      go_wp2
                      refine wp_region_ext (by kernel_rfl) (by kernel_rfl) ?_
                      repeat (go_big_quiet_step ((fail)))
                      refine wpQuiet_nil ?_
                      rintro w9 ⟨⟨_, hb9⟩, rfl⟩
                      have S9 := Lib.hid (SH.out.call hb9)
                      clear z2 z3 z4 y2 u1 u2
                      go_wp2
                      go_roundw
                      case rel => exact ⟨m + 1, by omega, by go_num, by rw [HN.out], S9.out⟩
                      case measure => simp [intOf]; omega
                · obtain rfl : m = nx := by omega
                  have HTA : Hid ((l.take m).any (matchB h) = true) := by unfold Hid; rw [List.take_of_length_le (by rw [← LX.out]; exact Nat.le_refl _)]; exact HAN.out
                  rw [HTA.out]
                  by_cases hj0 : j = 0
                  · subst hj0
                    have SH := Lib.hid S; clear S
                    go_wp2
                    have y2 := fun x : ExtOf wr => x.ext.cell r2
                    refine wp_region_ext (by kernel_rfl) (by kernel_rfl) ?_
                    repeat (go_big_quiet_step ((fail)))
                    refine wpQuiet_nil ?_
                    rintro w9 ⟨⟨_, hb9⟩, rfl⟩
                    have S9 := Lib.hid (SH.out.call hb9)
                    clear y2
                    go_wp2
                    go_roundw
                    case rel => exact ⟨1, by omega, by go_num, S9.out⟩
                    case measure => simp [intOf]; omega
                  · obtain ⟨i, rfl⟩ : ∃ i, j = i + 1 := ⟨j - 1, by omega⟩
                    have hr := S.rdx 1 rfl
                    have q3 := hr.cE (k := i) (by omega)
                    have q4 := hr.cE2 (k := i) (by omega)
                    have hA := HAH.out h (nth F i)
                    have hs : ltN h (nth F i) = false := by
                      have := List.pairwise_iff_getElem.1 HF1.out i (i + 1) (by omega) hlt (by omega)
                      rw [← HHH.out, nth_eq hlt, nth_eq (by omega)]; exact this
                    rw [hs] at hA
                    have HA2 := Lib.hid (fun (y : ExtOf wr) => hA y.val)
                    generalize nth F i = g at *
                    clear hr hs hA hj0
                    have m2 : (0:Int) < (i:Int) + 1 := by omega
                    have SH := Lib.hid S; clear S
                    go_wp2
                    have y2 := fun x : ExtOf wr => x.ext.cell r2
                    have u1 := fun x : ExtOf wr => x.ext.cell q1
                    have u2 := fun x : ExtOf wr => x.ext.cell q2
                    have u3 := fun x : ExtOf wr => x.ext.cell q3
                    have u4 := fun x : ExtOf wr => x.ext.cell q4
                    refine wp_region_ext (by kernel_rfl) (by kernel_rfl) ?_
                    repeat (go_big_quiet_step (((go_at_call 15; exact Calls.ext_of (HA2.out _)))))
                    refine wpQuiet_nil ?_
                    rintro w9 ⟨⟨_, hb9⟩, rfl⟩
                    have S9 := Lib.hid (SH.out.call hb9)
                    clear y2 u1 u2 u3 u4
                    go_wp2
                    go_roundw
                    case rel => exact ⟨i + 1 + 1, by omega, by go_num, S9.out⟩
                    case measure => simp [intOf]; omega
            · obtain rfl : j = F.length := by omega
              have hmx := HF2.out
              have HPR := Lib.hid (fun W => ProgsG W)
              by_cases hn0 : nm = 0
              · have c1 : decide (nm = 0) = true := decide_eq_true hn0
                have c2 : ((nm:Int) == 0) = true := by simp; omega
                by_cases hf0 : 0 < F.length
                · have c3 : decide (0 < F.length) = true := decide_eq_true hf0
                  have c4 : decide ((0:Int) < (F.length:Int)) = true := decide_eq_true (by omega)
                  clear hn0 hf0
                  have SH := Lib.hid S; clear S
                  go_wp2_with (go_at_call 9; go_must (refine (HPR.out _).mono ?_; rintro e w5 ⟨rfl, hb⟩; have S5 := Lib.hid (SH.out.call hb); clear r0 r1 r2 rz a5 az; have r0 := (S5.out.blk 0 rfl).cell 0; have r1 := (S5.out.blk 0 rfl).cell 1; have r2 := (S5.out.blk 0 rfl).cell 2; have rz := (S5.out.blk 0 rfl).lt; have a5 := (S5.out.blk 2 rfl).cell 5; have az := (S5.out.blk 2 rfl).lt; clear hb))
                  go_ret
                  exact ⟨rfl, S5.out.ext⟩
                · have c3 : decide (0 < F.length) = false := decide_eq_false hf0
                  have c4 : decide ((0:Int) < (F.length:Int)) = false := decide_eq_false (by omega)
                  clear hn0 hf0
                  have SH := Lib.hid S; clear S
                  go_wp2_with (go_at_call 9; go_must (refine (HPR.out _).mono ?_; rintro e w5 ⟨rfl, hb⟩; have S5 := Lib.hid (SH.out.call hb); clear r0 r1 r2 rz a5 az; have r0 := (S5.out.blk 0 rfl).cell 0; have r1 := (S5.out.blk 0 rfl).cell 1; have r2 := (S5.out.blk 0 rfl).cell 2; have rz := (S5.out.blk 0 rfl).lt; have a5 := (S5.out.blk 2 rfl).cell 5; have az := (S5.out.blk 2 rfl).lt; clear hb))
                  go_ret
                  exact ⟨rfl, S5.out.ext⟩
              · have c1 : decide (nm = 0) = false := decide_eq_false hn0
                have c2 : ((nm:Int) == 0) = false := by simp; omega
                by_cases hf0 : 0 < F.length
                · have c3 : decide (0 < F.length) = true := decide_eq_true hf0
                  have c4 : decide ((0:Int) < (F.length:Int)) = true := decide_eq_true (by omega)
                  clear hn0 hf0
                  have SH := Lib.hid S; clear S
                  go_wp2_with (go_at_call 9; go_must (refine (HPR.out _).mono ?_; rintro e w5 ⟨rfl, hb⟩; have S5 := Lib.hid (SH.out.call hb); clear r0 r1 r2 rz a5 az; have r0 := (S5.out.blk 0 rfl).cell 0; have r1 := (S5.out.blk 0 rfl).cell 1; have r2 := (S5.out.blk 0 rfl).cell 2; have rz := (S5.out.blk 0 rfl).lt; have a5 := (S5.out.blk 2 rfl).cell 5; have az := (S5.out.blk 2 rfl).lt; clear hb))
                  go_ret
                  exact ⟨rfl, S5.out.ext⟩
                · have c3 : decide (0 < F.length) = false := decide_eq_false hf0
                  have c4 : decide ((0:Int) < (F.length:Int)) = false := decide_eq_false (by omega)
                  clear hn0 hf0
                  have SH := Lib.hid S; clear S
                  go_wp2_with (go_at_call 9; go_must (refine (HPR.out _).mono ?_; rintro e w5 ⟨rfl, hb⟩; have S5 := Lib.hid (SH.out.call hb); clear r0 r1 r2 rz a5 az; have r0 := (S5.out.blk 0 rfl).cell 0; have r1 := (S5.out.blk 0 rfl).cell 1; have r2 := (S5.out.blk 0 rfl).cell 2; have rz := (S5.out.blk 0 rfl).lt; have a5 := (S5.out.blk 2 rfl).cell 5; have az := (S5.out.blk 2 rfl).lt; clear hb))
                  go_ret
                  exact ⟨rfl, S5.out.ext⟩
        · have e3 : (k != 3) = true := by simpa using hk
          have HD := Lib.hid (fun W (h : Ext w W) => DoneNo k f t pw nw cw rad most pp np cp px nx cx l pm nm cm M W hk (hX.ext h) (hM.ext h) hxI hb1 (by omega) ht)
          clear hw hX hL hM hbig hfar hc1 hfar2 hb1 hLI hk
          go_enter Try.func5, Try.ntmps5
          go_wp2_with (first | (go_at_call 9; go_must (refine (ProgsG _).mono ?_; rintro e w5 ⟨rfl, hb⟩; have S5 := Lib.hid (S4.out.call hb); have r2 := (S5.out.blk 0 rfl).cell 2; have rz := (S5.out.blk 0 rfl).lt; clear hb)) | (go_at_call 14; go_must (refine (HD.out _ S2.out.ext).mono ?_; rintro e w4 ⟨b, d, dn, rfl, hE⟩; have S4 := Lib.hid ((S2.out.call hE).al #[.bool b, .int .i64 d, .slice none 0 0] 38 w4.heap.size rfl); clear a0 a1 a2 a3 a4 a5 az; have a0 := (S4.out.blk 1 rfl).cell 0; have a1 := (S4.out.blk 1 rfl).cell 1; have a2 := (S4.out.blk 1 rfl).cell 2; have a3 := (S4.out.blk 1 rfl).cell 3; have a4 := (S4.out.blk 1 rfl).cell 4; have a5 := (S4.out.blk 1 rfl).cell 5; have az := (S4.out.blk 1 rfl).lt; clear hE)) | (go_at_call 13; go_must (refine (HC1.out _ S2.out.ext).mono ?_; rintro e w3 ⟨rfl, hw3⟩; have hw3 := hw3.symm; subst hw3)) | (go_at_call 12; go_must (refine (HFR.out _ S1.out.ext).mono ?_; rintro e w2 ⟨rfl, hb⟩; have S2 := Lib.hid (S1.out.call hb); clear a0 a1 a2 a3 a4 a5 az; have a0 := (S2.out.blk 0 rfl).cell 0; have a1 := (S2.out.blk 0 rfl).cell 1; have a2 := (S2.out.blk 0 rfl).cell 2; have a3 := (S2.out.blk 0 rfl).cell 3; have a4 := (S2.out.blk 0 rfl).cell 4; have a5 := (S2.out.blk 0 rfl).cell 5; have az := (S2.out.blk 0 rfl).lt; clear hb)) | (go_at_call 7; go_must (refine (HBG.out _ S0.out.ext).mono ?_; rintro e w1 ⟨rfl, hb⟩; have S1 := Lib.hid (S0.out.call hb); have a0 := (S1.out.blk 0 rfl).cell 0; have a1 := (S1.out.blk 0 rfl).cell 1; have a2 := (S1.out.blk 0 rfl).cell 2; have a3 := (S1.out.blk 0 rfl).cell 3; have a4 := (S1.out.blk 0 rfl).cell 4; have a5 := (S1.out.blk 0 rfl).cell 5; have az := (S1.out.blk 0 rfl).lt; clear hb)))
          go_ret
          exact ⟨rfl, S5.out.ext⟩
end Go.Proofs.Ytkekibnhmfmhmaa
/- The last step of a law's row: the result is true, the arguments read as they did, where the call only made memory. -/
namespace Go.Proofs.Ytkekibnhmfmhmaa
open Go Go.RowKit Go.WideShapes Go.ChangeShapes
theorem own : ownKnob Try.prog.godebug = none := by kernel_rfl
theorem laidOut : laidOutB Try.prog = true := by kernel_rfl
set_option maxRecDepth 100000 in
/-- true comes back, the arguments stay: what is left to show is their reading -/
theorem law_post {H : Type} {enc : TypeId × Value → H} {f : Func} {s : ChangeSpec} {apart fresh handsOn again : Bool} {W W' : World} {args : Array Value} {ds : List (DataW H)} {before : List MemPlace}
    (hW : DataW.Whole enc Try.prog f.params.toList s.vars apart W args.toList ds [] before) (ht : f.resultTypes = #[4]) (hvars : s.vars = [])
    (hfn : s.fn H (ds ++ []) = { results := [.lit (.bool true)], args := ds })
    (hargs : ∀ sp : Nat → Bool, (∀ p ∈ before, sp p.block = true) → DataW.TrodAll enc Try.prog W' 0 sp true f.params.toList args.toList ds before)
    (hb : Below W.heap.size W W') : s.post enc Try.prog f apart fresh handsOn again W args (.bool true) W' := by
  have lits : ∀ (b : Nat) (sp : Nat → Bool) (hd : Bool), DataW.TrodAll enc Try.prog W' b sp hd f.resultTypes.toList ((Value.bool true).resultList f.resultTypes.size) (s.fn H (ds ++ [])).results [] := by
    intro b sp hd
    rw [hfn, ht]
    exact trodAll_mk1 (shut_bool Try.underlying4 true)
  have hold : ∀ sp : Nat → Bool, (∀ p ∈ before, sp p.block = true) → DataW.TrodAll enc Try.prog W' 0 sp true f.params.toList args.toList (s.fn H (ds ++ [])).args before := by
    intro sp hsp
    rw [hfn]; exact hargs sp hsp
  have hv : ∀ sp : Nat → Bool, DataW.TrodVars enc Try.prog W' sp s.vars (s.fn H (ds ++ [])).vars [] := by
    intro sp; rw [hfn, hvars]; rfl
  have hin : ∀ p ∈ before, p.block < W.heap.size := fun p hp => hW.lt p hp
  have same : before = before ++ [] := by simp
  refine ⟨ds, [], before, [], before, [], hW, lits _ _ _, hold _ (fun p hp => by simpa using hin p hp), hv _, World.keptBut_mono (fun p hp => ⟨hp, .inr (by simpa using hp)⟩) (hb.frame (· ∈ before)), fun _ => ?_⟩
  have hW2 := hW
  obtain ⟨_, _, _, _, _, hz, hn⟩ := hW2
  refine ⟨ok_one (by rw [ht]) rfl (okWide_bool_mk Try.underlying4 _), _, _, ([] ++ before) ++ [], ⟨[] ++ before, [], trodAll_append (hold _ (fun _ _ => rfl)) (lits _ _ _), hv _, rfl, ?_, ?_⟩, ?_⟩
  · intro b off hp
    have hp2 : MemPlace.cell b off ∈ before := by simpa using hp
    rw [hb.frozen (hin _ hp2)]
    exact hz b off hp2
  · intro ha
    simpa using hn ha
  · intro p hp _
    simpa using hp
/-- an argument's reading, carried behind the call -/
theorem stays {H : Type} {enc : TypeId × Value → H} {W W' : World} {t : TypeId} {v : Value} {d : DataW H} {ps : List MemPlace} (hr : Try.prog.readableRec t = true) (hrow : t < Try.prog.types.size) (h : DataW.Trod enc Try.prog W 0 (fun _ => true) true t v d ps)
    (hb : Below W.heap.size W W') (hlt : ∀ x ∈ ps, x.block < W.heap.size) {sp : Nat → Bool} (hsp : ∀ x ∈ ps, sp x.block = true) : DataW.Trod enc Try.prog W' 0 sp true t v d ps :=
  WideElems.Trod_stays laidOut hr hrow h (fun x hx => hb.same (hlt x hx)) hsp
/-- all readings, one by one -/
theorem trodAll_turn {H : Type} {enc : TypeId × Value → H} {P : Program} {W W' : World} {sp sp' : Nat → Bool} {hd : Bool} (ts : List TypeId) : ∀ {vs : List Value} {ds : List (DataW H)} {ps : List MemPlace}, DataW.TrodAll enc P W 0 sp hd ts vs ds ps →
    (∀ t ∈ ts, ∀ v d p, (∀ x ∈ p, x ∈ ps) → DataW.Trod enc P W 0 sp hd t v d p → DataW.Trod enc P W' 0 sp' hd t v d p) → DataW.TrodAll enc P W' 0 sp' hd ts vs ds ps := by
  induction ts with
  | nil =>
    intro vs ds ps h _
    obtain ⟨rfl, rfl, rfl⟩ := trodAll_nil h
    exact trodAll_mk0
  | cons t ts ih =>
    intro vs ds ps h hk
    obtain ⟨v, vs', d, ds', p, q, rfl, rfl, rfl, h1, h2⟩ := trodAll_cons h
    exact trodAll_cons_mk (hk t (by simp) v d p (fun x hx => by simp [hx]) h1) (ih h2 fun t' ht' v' d' p' hp' h' => hk t' (by simp [ht']) v' d' p' (fun x hx => by simp [hp' x hx]) h')
/-- all arguments' reading, carried behind the call -/
theorem stays_all {H : Type} {enc : TypeId × Value → H} {W W' : World} {ts : List TypeId} {vs : List Value} {ds : List (DataW H)} {ps : List MemPlace} (hr : ts.all (fun t => Try.prog.readableRec t && decide (t < Try.prog.types.size)) = true)
    (h : DataW.TrodAll enc Try.prog W 0 (fun _ => true) true ts vs ds ps) (hb : Below W.heap.size W W') (hlt : ∀ x ∈ ps, x.block < W.heap.size) {sp : Nat → Bool} (hsp : ∀ x ∈ ps, sp x.block = true) : DataW.TrodAll enc Try.prog W' 0 sp true ts vs ds ps :=
  trodAll_turn ts h fun t ht v d p hp h1 => by
    have h2 := List.all_eq_true.1 hr t ht
    rw [Bool.and_eq_true, decide_eq_true_eq] at h2
    exact stays h2.1 h2.2 h1 hb (fun x hx => hlt x (hp x hx)) (fun x hx => hsp x (hp x hx))
end Go.Proofs.Ytkekibnhmfmhmaa
