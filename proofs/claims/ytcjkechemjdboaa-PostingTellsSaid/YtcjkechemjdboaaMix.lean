/- A region that draws its order, whose head reads and makes memory: plain operations by one walk in the text's order, the free ones (what they yield is not fixed) by relations; then the tail. -/
import Derived.Test.YtcjkechemjdboaaRel
namespace Go.Proofs.Ytcjkechemjdboaa
open Go Go.RowKit
/-- an operation that calls no function of Go's text -/
def noEnter (o : Oper) : Bool := match o.op with | .call c => (match c.callee with | .builtin .len => true | _ => false) | .nilCheck _ => false | .go _ => false | .defer _ => false | .recv .. => false | .select .. => false | .send .. => false | _ => true
def nfM : List Bool → List Oper → List Oper
  | true :: m, o :: l => o :: nfM m l
  | false :: m, _ :: l => nfM m l
  | _, _ => []
/-- the free ones' values set -/
def putM : List Bool → List Oper → Nat → Act → (Nat → Value) → Act
  | false :: m, o :: l, i, a, vs => putM m l (i + 1) (a.put o.dst (vs i)) vs
  | true :: m, _ :: l, i, a, vs => putM m l (i + 1) a vs
  | _, _, _, a, _ => a
/-- what is asked of the free ones -/
def freeM (P : Program) (w : World) (ops : Array Oper) (R : Nat → Value → World → Prop) (mask : List Bool) (F : (Nat → Value) → Act) : List Bool → List Oper → Nat → Prop
  | false :: m, o :: l, i => (∀ vs W, Ext w W → (∀ j ∈ depsOf ops i, mask[j]? = some false → R j (vs j) W) → relUpon P W (R i) ((execOp (F vs).eval o).run P W)) ∧ freeM P w ops R mask F m l (i + 1)
  | true :: m, _ :: l, i => freeM P w ops R mask F m l (i + 1)
  | _, _, _ => True
/-- what is known behind them -/
def knowM (R : Nat → Value → World → Prop) (vs : Nat → Value) (W : World) : List Bool → Nat → Prop
  | false :: m, i => R i (vs i) W ∧ knowM R vs W m (i + 1)
  | true :: m, i => knowM R vs W m (i + 1)
  | [], _ => True
def mixB (l : List Oper) (size : Nat) (mask : List Bool) : Bool :=
  dsB l mask.length size ((l.take mask.length).map fun o => o.dst.getD 0) &&
  (List.range mask.length).all fun i => match l[i]? with
    | none => false
    | some o => (match mask[i]? with | some true => noEnter o | _ => true) && (match o.op with | .select .. => false | _ => true) &&
      (List.range mask.length).all fun j => match l[j]? with
        | none => false
        | some p => (match p.dst with | none => false | some s => !((o.looksAt l.toArray).contains s) || ((depsOf l.toArray i).contains j && (mask[i]? != some true || mask[j]? == some true)))
section
variable {P : Program} {Q : Exit → Act → World → Prop}
/-- constants (b) or free values (not b) of the first k operations, set -/
def frG (b : Bool) (l : List Oper) (mask : List Bool) (a : Act) (c : Nat → Value) : Nat → Act
  | 0 => a
  | k + 1 => match l[k]?, mask[k]? with
    | some o, some b' => if b' = b then (frG b l mask a c k).put o.dst (c k) else frG b l mask a c k
    | _, _ => frG b l mask a c k
theorem frG_congr {b : Bool} {l : List Oper} {mask : List Bool} {a : Act} {c c' : Nat → Value} : ∀ k, (∀ j, j < k → c j = c' j) → frG b l mask a c k = frG b l mask a c' k
  | 0, _ => rfl
  | k + 1, h => by
    unfold frG
    rw [frG_congr k fun j hj => h j (by omega), h k (by omega)]
theorem frG_shape (b : Bool) (l : List Oper) (mask : List Bool) (a : Act) (c : Nat → Value) : ∀ k, ∃ ts : Array Value, ts.size = a.tmps.size ∧ frG b l mask a c k = { a with tmps := ts }
  | 0 => ⟨a.tmps, rfl, rfl⟩
  | k + 1 => by
    obtain ⟨ts, h1, h2⟩ := frG_shape b l mask a c k
    unfold frG
    split
    · split
      · rename_i o b' ho _ _
        rw [h2]
        cases hd : o.dst with
        | none => exact ⟨ts, h1, rfl⟩
        | some d => exact ⟨ts.setIfInBounds d (c k), by simp [h1], rfl⟩
      · exact ⟨ts, h1, h2⟩
    · exact ⟨ts, h1, h2⟩
/-- a slot of the frame: what was set there last, or what was there -/
theorem frG_other {b : Bool} {l : List Oper} {mask : List Bool} {a : Act} {c : Nat → Value} {s : Nat} : ∀ k, (∀ j o, j < k → l[j]? = some o → mask[j]? = some b → o.dst ≠ some s) → (frG b l mask a c k).eval (.tmp s) = a.eval (.tmp s)
  | 0, _ => rfl
  | k + 1, h => by
    have ih := frG_other (b := b) (l := l) (mask := mask) (a := a) (c := c) (s := s) k fun j o hj => h j o (by omega)
    unfold frG
    split
    · split
      · rename_i o b' ho hm hb
        subst hb
        rw [Act.eval_put, ih]
        intro d hd e
        injection e with e
        exact h k o (by omega) ho hm (by rw [hd, e])
      · exact ih
    · exact ih
theorem frG_at {b : Bool} {l : List Oper} {mask : List Bool} {a : Act} {c : Nat → Value} {s i : Nat} {o : Oper} (hi : l[i]? = some o) (hm : mask[i]? = some b) (hd : o.dst = some s) (hs : s < a.tmps.size)
    (hn : ∀ j p, l[j]? = some p → j < mask.length → p.dst = some s → j = i) : ∀ k, i < k → (frG b l mask a c k).eval (.tmp s) = c i
  | 0, h => by omega
  | k + 1, h => by
    by_cases e : i = k
    · subst e
      unfold frG
      rw [hi, hm]
      simp only [if_true]
      obtain ⟨ts, h1, h2⟩ := frG_shape b l mask a c i
      rw [h2, hd]
      simp [Act.put, Act.eval, h1, hs]
    · have ih := frG_at (a := a) (c := c) hi hm hd hs hn k (by omega)
      unfold frG
      split
      · split
        · rename_i p b' hp hm' hb
          rw [Act.eval_put, ih]
          intro d hd' e'
          injection e' with e'
          have hk : k < mask.length := (List.getElem?_eq_some_iff.1 hm').1
          exact e (hn k p hp hk (by rw [hd', e'])).symm
        · exact ih
      · exact ih
theorem frG_rest {b : Bool} {l : List Oper} {mask : List Bool} {a : Act} {c : Nat → Value} (k : Nat) : (∀ v, (frG b l mask a c k).eval (.const v) = a.eval (.const v)) ∧ (∀ f, (frG b l mask a c k).eval (.func f) = a.eval (.func f)) ∧ (∀ g, (frG b l mask a c k).eval (.global g) = a.eval (.global g)) := by
  obtain ⟨ts, h1, h2⟩ := frG_shape b l mask a c k
  rw [h2]
  exact ⟨fun _ => rfl, fun _ => rfl, fun _ => rfl⟩
theorem frG_yes {b : Bool} {l : List Oper} {mask : List Bool} {a : Act} {c : Nat → Value} {k : Nat} {o : Oper} (ho : l[k]? = some o) (hm : mask[k]? = some b) : frG b l mask a c (k + 1) = (frG b l mask a c k).put o.dst (c k) := by
  rw [frG, ho, hm]; simp
theorem frG_no {b : Bool} {l : List Oper} {mask : List Bool} {a : Act} {c : Nat → Value} {k : Nat} (hm : mask[k]? ≠ some b) : frG b l mask a c (k + 1) = frG b l mask a c k := by
  rw [frG]
  split
  · rename_i o b' ho hm'
    rw [if_neg]
    intro e; subst e; exact hm hm'
  · rfl
theorem putM_eq (l : List Oper) (mask : List Bool) (a : Act) (vs : Nat → Value) (hl : mask.length ≤ l.length) : ∀ m k, k + m = mask.length → putM (mask.drop k) (l.drop k) k (frG false l mask a vs k) vs = frG false l mask a vs mask.length
  | 0, k, h => by
    rw [List.drop_of_length_le (by omega : mask.length ≤ k)]
    have : k = mask.length := by omega
    subst this; unfold putM; rfl
  | m + 1, k, h => by
    have h1 : k < mask.length := by omega
    have h2 : k < l.length := by omega
    have ih := putM_eq l mask a vs hl m (k + 1) (by omega)
    rw [List.drop_eq_getElem_cons h1, List.drop_eq_getElem_cons h2]
    have g1 := List.getElem?_eq_getElem h1
    have g2 := List.getElem?_eq_getElem h2
    cases hb : mask[k] with
    | true => rw [hb] at g1; rw [frG_no (by rw [g1]; simp)] at ih; rw [← ih]; rw [putM]
    | false => rw [hb] at g1; rw [frG_yes g2 g1] at ih; rw [← ih]; rw [putM]
theorem rel_of_quiet {C : World → Prop} {W : World} {v : Value} {ev : Operand → Value} {o : Oper} (hne : noEnter o = true) (h : Oper.quietUpon P C W v ((execOp ev o).run P W)) : relUpon P W (fun u _ => u = v) ((execOp ev o).run P W) := by
  have key : ∀ f args W', (execOp ev o).run P W = .ok (.enter f args) W' → False := by
    intro f args W' hr
    unfold execOp at hr
    unfold noEnter at hne
    obtain ⟨dst, op, ty, pos, aft, g⟩ := o
    have val : ∀ s : Sem Value, (do let x ← s; pure (Next.value x) : Sem Next).run P W = .ok (.enter f args) W' → False := by
      intro s h
      rw [Sem.run_bind] at h
      cases hs : s.run P W with
      | ok x w1 => rw [hs] at h; simp [Result.andThen] at h
      | halt x w1 => rw [hs] at h; simp [Result.andThen] at h
    have uni : ∀ s : Sem Unit, (do s; pure Next.skip : Sem Next).run P W = .ok (.enter f args) W' → False := by
      intro s h
      rw [Sem.run_bind] at h
      cases hs : s.run P W with
      | ok x w1 => rw [hs] at h; simp [Result.andThen] at h
      | halt x w1 => rw [hs] at h; simp [Result.andThen] at h
    cases op <;> simp only at hr hne <;> first | exact val _ hr | exact uni _ hr | cases hne | skip
    · simp at hr
    · simp at hr
    · rename_i cc aa bb
      rw [Sem.run_bind] at hr
      cases hs : (asBool (ev cc)).run P W with
      | ok x w1 => rw [hs] at hr; simp [Result.andThen] at hr
      | halt x w1 => rw [hs] at hr; simp [Result.andThen] at hr
    · rename_i c
      obtain ⟨callee, cargs, cts⟩ := c
      cases callee with
      | builtin b =>
        cases b with
        | len => simp only [resolve, invoke, builtin, Sem.run_bind, Sem.run_pure, Result.andThen_ok] at hr; exact val _ (by rw [Sem.run_bind]; exact hr)
        | _ => simp at hne
      | _ => simp at hne
  generalize (execOp ev o).run P W = r at h key
  cases r with
  | ok x W' =>
    cases x with
    | value u => obtain ⟨h1, h2⟩ := h; subst h1; exact ⟨h2, Below.refl _ _⟩
    | skip => obtain ⟨h1, h2⟩ := h; subst h1; exact ⟨h2.symm, Below.refl _ _⟩
    | enter f args => exact (key f args W' rfl).elim
    | _ => exact h.elim
  | halt x W' => exact h.elim
/-- what the walk in the text's order gives: constants -/
theorem quiet_consts {ops : Array Oper} {w : World} {l : List Oper} {mask : List Bool} {a : Act} {K : Act → Prop} (hl : mask.length ≤ l.length) (hgd : ∀ (i : Nat) (o : Oper), i < mask.length → l[i]? = some o → o.guard = none)
    (hne : ∀ (i : Nat) (o : Oper), mask[i]? = some true → l[i]? = some o → noEnter o = true) : ∀ m k c, k + m = mask.length → wpQuiet P ops (fun W => ∃ x : ExtOf w, W = x.val) K (nfM (mask.drop k) (l.drop k)) (frG true l mask a c k) →
      ∃ c', (∀ j, j < k → c' j = c j) ∧ (∀ (j : Nat) (o : Oper), k ≤ j → mask[j]? = some true → l[j]? = some o → ∀ W, Ext w W → relUpon P W (fun u _ => u = c' j) ((execOp (frG true l mask a c' j).eval o).run P W)) ∧ K (frG true l mask a c' mask.length)
  | 0, k, c, h, hq => by
    have : k = mask.length := by omega
    subst this
    rw [List.drop_of_length_le (Nat.le_refl _), nfM] at hq
    exact ⟨c, fun _ _ => rfl, fun j o h1 h2 => by have := (List.getElem?_eq_some_iff.1 h2).1; omega, hq⟩
    all_goals simp
  | m + 1, k, c, h, hq => by
    have h1 : k < mask.length := by omega
    have h2 : k < l.length := by omega
    have g1 := List.getElem?_eq_getElem h1
    have g2 := List.getElem?_eq_getElem h2
    rw [List.drop_eq_getElem_cons h1, List.drop_eq_getElem_cons h2] at hq
    cases hb : mask[k] with
    | false =>
      rw [hb, nfM] at hq
      rw [hb] at g1
      obtain ⟨c', e1, e2, e3⟩ := quiet_consts (a := a) hl hgd hne m (k + 1) c (by omega) (by rw [frG_no (by rw [g1]; simp)]; exact hq)
      refine ⟨c', fun j hj => e1 j (by omega), fun j o hj hm ho => ?_, e3⟩
      have : j ≠ k := by intro e; subst e; rw [g1] at hm; cases hm
      exact e2 j o (by omega) hm ho
    | true =>
      rw [hb, nfM] at hq
      rw [hb] at g1
      unfold wpQuiet at hq
      rw [if_pos (by simp [Region.wanted, hgd k _ h1 g2])] at hq
      obtain ⟨v, hv, hq⟩ := hq
      have hcc : frG true l mask a (upd c k v) (k + 1) = (frG true l mask a c k).put l[k].dst v := by
        rw [frG_yes g2 g1, upd_same]
        rw [frG_congr k fun j hj => upd_other c v (by omega)]
      obtain ⟨c', e1, e2, e3⟩ := quiet_consts (a := a) hl hgd hne m (k + 1) (upd c k v) (by omega) (by rw [hcc]; exact hq)
      refine ⟨c', fun j hj => by rw [e1 j (by omega), upd_other c v (by omega)], fun j o hj hm ho => ?_, e3⟩
      by_cases e : j = k
      · subst e
        rw [g2] at ho; injection ho with ho; subst ho
        intro W hW
        have hvj : c' j = v := by rw [e1 j (by omega), upd_same]
        rw [hvj, frG_congr j fun i hi => (e1 i (by omega)).trans (upd_other c v (by omega))]
        exact rel_of_quiet (hne j _ g1 g2) (hv W ⟨⟨W, hW⟩, rfl⟩)
      · exact e2 j o (by omega) hm ho
theorem freeM_at {w : World} {ops : Array Oper} {R : Nat → Value → World → Prop} {mask0 : List Bool} {F : (Nat → Value) → Act} : ∀ (m : List Bool) (l : List Oper) (k : Nat), freeM P w ops R mask0 F m l k → ∀ (i : Nat) (o : Oper), m[i]? = some false → l[i]? = some o →
    ∀ vs W, Ext w W → (∀ j ∈ depsOf ops (k + i), mask0[j]? = some false → R j (vs j) W) → relUpon P W (R (k + i)) ((execOp (F vs).eval o).run P W)
  | [], _, _, _, i, o, h, _ => by simp at h
  | b :: m, [], _, _, i, o, _, h => by simp at h
  | true :: m, p :: l, k, h, i, o, hm, ho => by
    cases i with
    | zero => simp at hm
    | succ i =>
      rw [freeM] at h
      have := freeM_at m l (k + 1) h i o (by simpa using hm) (by simpa using ho)
      rwa [show k + 1 + i = k + (i + 1) from by omega] at this
  | false :: m, p :: l, k, h, i, o, hm, ho => by
    rw [freeM] at h
    cases i with
    | zero => simp at ho; subst ho; exact h.1
    | succ i =>
      have := freeM_at m l (k + 1) h.2 i o (by simpa using hm) (by simpa using ho)
      rwa [show k + 1 + i = k + (i + 1) from by omega] at this
theorem knowM_of {R : Nat → Value → World → Prop} {vs : Nat → Value} {W : World} : ∀ (m : List Bool) (k : Nat), (∀ i, m[i]? = some false → R (k + i) (vs (k + i)) W) → knowM R vs W m k
  | [], _, _ => trivial
  | true :: m, k, h => by
    rw [knowM]
    exact knowM_of m (k + 1) fun i hi => by have := h (i + 1) (by simpa using hi); rwa [show k + (i + 1) = k + 1 + i from by omega] at this
  | false :: m, k, h => by
    rw [knowM]
    exact ⟨h 0 rfl, knowM_of m (k + 1) fun i hi => by have := h (i + 1) (by simpa using hi); rwa [show k + (i + 1) = k + 1 + i from by omega] at this⟩
/-- **a region that draws its order: the plain ones of the head by one walk, the free ones by relations; then the tail** -/
theorem wp_region_mix {id : Nat} {a : Act} {w : World} {l : List Oper} (mask : List Bool) (R : Nat → Value → World → Prop) (hm : P.follows .mixedOrders = true) (hB : headB l.toArray mask.length = true) (hX : mixB l a.tmps.size mask = true)
    (mono : ∀ i v W W', Ext W W' → R i v W → R i v W')
    (h : wpQuiet P l.toArray (fun W => ∃ x : ExtOf w, W = x.val) (fun a' => freeM P w l.toArray R mask (fun vs => putM mask l 0 a' vs) mask l 0 ∧ ∀ vs W, Ext w W → knowM R vs W mask 0 → wpList P l.toArray Q (l.drop mask.length) (putM mask l 0 a' vs) W) (nfM mask l) a) :
    (Code.region id l.toArray true).wp P Q a w := by
  have hB0 := hB
  simp only [headB, Bool.and_eq_true, decide_eq_true_eq, Bool.or_eq_true] at hB0
  obtain ⟨⟨⟨hn, hhead⟩, _⟩, _⟩ := hB0
  have hl : mask.length ≤ l.length := by simpa using hn
  have hX0 := hX
  simp only [mixB, Bool.and_eq_true] at hX0
  obtain ⟨hds, hx⟩ := hX0
  have hgd : ∀ (i : Nat) (o : Oper), i < mask.length → l[i]? = some o → o.guard = none := by
    intro i o hi ho
    have := List.all_eq_true.1 hhead i (List.mem_range.2 hi)
    simp only [Bool.and_eq_true, List.getElem?_toArray, ho] at this
    simpa using this.2
  have hdep : ∀ i, i < mask.length → ∀ j ∈ depsOf l.toArray i, j < i := by
    intro i hi j hj
    have := List.all_eq_true.1 hhead i (List.mem_range.2 hi)
    simp only [Bool.and_eq_true] at this
    have h2 := List.all_eq_true.1 this.1 j hj
    simpa using h2
  have hxi : ∀ (i : Nat) (o : Oper), i < mask.length → l[i]? = some o → (mask[i]? = some true → noEnter o = true) ∧ (∀ cs b, o.op ≠ .select cs b) ∧ ∀ (j : Nat) (p : Oper), j < mask.length → l[j]? = some p → ∃ s, p.dst = some s ∧ (s ∈ o.looksAt l.toArray → j ∈ depsOf l.toArray i ∧ (mask[i]? = some true → mask[j]? = some true)) := by
    intro i o hi ho
    have := List.all_eq_true.1 hx i (List.mem_range.2 hi)
    simp only [ho, Bool.and_eq_true] at this
    obtain ⟨⟨h1, h2⟩, h3⟩ := this
    refine ⟨fun hm => ?_, fun cs b e => ?_, fun j p hj hp => ?_⟩
    · rw [hm] at h1; exact h1
    · rw [e] at h2; cases h2
    · have h4 := List.all_eq_true.1 h3 j (List.mem_range.2 hj)
      simp only [hp] at h4
      cases hd : p.dst with
      | none => rw [hd] at h4; cases h4
      | some s =>
        rw [hd] at h4
        refine ⟨s, rfl, fun hs => ?_⟩
        simp only [Bool.or_eq_true, Bool.and_eq_true, Bool.not_eq_true', List.contains_eq_mem, decide_eq_false_iff_not, decide_eq_true_eq, bne_iff_ne, ne_eq, beq_iff_eq] at h4
        rcases h4 with h4 | ⟨h4, h5⟩
        · exact (h4 hs).elim
        · refine ⟨h4, fun hm => ?_⟩
          rcases h5 with h5 | h5
          · exact (h5 hm).elim
          · exact h5
  obtain ⟨c, _, hc, hK⟩ := quiet_consts (a := a) hl hgd (fun i o hm ho => (hxi i o (List.getElem?_eq_some_iff.1 hm).1 ho).1 hm) mask.length 0 (fun _ => undef) (by omega) (by rw [List.drop_zero, List.drop_zero]; exact h)
  obtain ⟨hfree, hrest⟩ := hK
  have hds0 := hds
  simp only [dsB, Bool.and_eq_true, decide_eq_true_eq, List.all_eq_true] at hds0
  obtain ⟨⟨d1, d2⟩, d3⟩ := hds0
  have hdst : ∀ (i : Nat) (o : Oper), i < mask.length → l[i]? = some o → o.dst = some (((l.take mask.length).map fun o => o.dst.getD 0).getD i 0) ∧ ((l.take mask.length).map fun o => o.dst.getD 0).idxOf? (o.dst.getD 0) = some i ∧ o.dst.getD 0 < a.tmps.size := by
    intro i o hi ho
    have hi2 : i < l.length := by omega
    have g : (l.take mask.length)[i]? = some o := by rw [List.getElem?_take, if_pos hi]; exact ho
    have e0 : ((l.take mask.length).map fun o => o.dst.getD 0)[i]? = some (o.dst.getD 0) := by rw [List.getElem?_map, g]; rfl
    have e1 : ((l.take mask.length).map fun o => o.dst.getD 0).getD i 0 = o.dst.getD 0 := by rw [List.getD_eq_getElem?_getD, e0]; rfl
    obtain ⟨hil, he⟩ := List.getElem?_eq_some_iff.1 e0
    refine ⟨?_, ?_, ?_⟩
    · rw [e1]
      have := congrArg (·[i]?) d1
      simp only [List.getElem?_map, g, e0, Option.map_some] at this
      injection this
    · rw [List.idxOf?_eq_some_iff]
      refine ⟨hil, by rw [he], fun j hj => ?_⟩
      intro e
      have := List.pairwise_iff_getElem.1 d2 j i (by omega) hil hj
      exact this (by rw [he]; simpa using e)
    · exact d3 _ (by rw [← he]; exact List.getElem_mem _)
  have huniq : ∀ (i : Nat) (o : Oper) s, i < mask.length → l[i]? = some o → o.dst = some s → ∀ (j : Nat) (p : Oper), l[j]? = some p → j < mask.length → p.dst = some s → j = i := by
    intro i o s hi ho hs j p hp hj hps
    have h1 := (hdst i o hi ho).2.1
    have h2 := (hdst j p hj hp).2.1
    rw [hs] at h1; rw [hps] at h2
    rw [h1] at h2; injection h2 with h2; exact h2.symm
  have hslot : ∀ s, (∃ (i : Nat) (o : Oper), i < mask.length ∧ l[i]? = some o ∧ o.dst = some s) ∨ ∀ (i : Nat) (o : Oper), i < mask.length → l[i]? = some o → o.dst ≠ some s := by
    intro s
    by_cases he : ∃ (i : Nat) (o : Oper), i < mask.length ∧ l[i]? = some o ∧ o.dst = some s
    · exact .inl he
    · exact .inr fun i o hi ho e => he ⟨i, o, hi, ho, e⟩
  have hnone : ∀ s, (∀ (i : Nat) (o : Oper), i < mask.length → l[i]? = some o → o.dst ≠ some s) → ((l.take mask.length).map fun o => o.dst.getD 0).idxOf? s = none := by
    intro s hs
    cases hi : ((l.take mask.length).map fun o => o.dst.getD 0).idxOf? s with
    | none => rfl
    | some k =>
      exfalso
      obtain ⟨hk, he, _⟩ := List.idxOf?_eq_some_iff.1 hi
      have hkm : k < mask.length := by rw [List.length_map, List.length_take] at hk; omega
      have hkl : k < l.length := by omega
      have g2 := List.getElem?_eq_getElem hkl
      have h3 := hdst k _ hkm g2
      refine hs k _ hkm g2 ?_
      rw [h3.1]
      have : ((l.take mask.length).map fun o => o.dst.getD 0).getD k 0 = s := by
        rw [List.getD_eq_getElem?_getD, List.getElem?_eq_getElem hk]; simpa using he
      rw [this]
  -- a frame's slots, constants and free values
  have hC : ∀ (i : Nat) (o : Oper) s, i < mask.length → l[i]? = some o → o.dst = some s → mask[i]? = some true → ∀ k, i < k → (frG true l mask a c k).eval (.tmp s) = c i := fun i o s hi ho hs hm' k hk =>
    frG_at ho hm' hs (by have := (hdst i o hi ho).2.2; rw [hs] at this; exact this) (huniq i o s hi ho hs) k hk
  have hF1 : ∀ vs (i : Nat) (o : Oper) s, i < mask.length → l[i]? = some o → o.dst = some s → mask[i]? = some false → (frG false l mask (frG true l mask a c mask.length) vs mask.length).eval (.tmp s) = vs i := fun vs i o s hi ho hs hm' =>
    frG_at ho hm' hs (by obtain ⟨ts, h1, h2⟩ := frG_shape true l mask a c mask.length; rw [h2]; show s < ts.size; rw [h1]; have := (hdst i o hi ho).2.2; rw [hs] at this; exact this) (huniq i o s hi ho hs) mask.length hi
  have hF2 : ∀ vs (i : Nat) (o : Oper) s, i < mask.length → l[i]? = some o → o.dst = some s → mask[i]? = some true → (frG false l mask (frG true l mask a c mask.length) vs mask.length).eval (.tmp s) = c i := fun vs i o s hi ho hs hm' => by
    rw [frG_other mask.length fun j p hj hp hmj e => ?_]
    · exact hC i o s hi ho hs hm' mask.length hi
    · have := huniq i o s hi ho hs j p hp hj e
      subst this
      rw [hm'] at hmj; cases hmj
  have hput : ∀ vs, putM mask l 0 (frG true l mask a c mask.length) vs = frG false l mask (frG true l mask a c mask.length) vs mask.length := fun vs => by
    have := putM_eq l mask (frG true l mask a c mask.length) vs hl mask.length 0 (by omega)
    rw [List.drop_zero, List.drop_zero] at this
    exact this
  have hbool : ∀ i, i < mask.length → mask[i]? = some true ∨ mask[i]? = some false := by
    intro i hi
    rw [List.getElem?_eq_getElem hi]
    cases mask[i] <;> simp
  refine wp_region_head mask.length ((l.take mask.length).map fun o => o.dst.getD 0) (fun i v W => if mask[i]? = some true then v = c i else R i v W) hm hB hds ?_ ?_ ?_
  · intro i v W W' hE hr
    show if _ then _ else _
    by_cases hi : mask[i]? = some true
    · rw [if_pos hi] at hr ⊢; exact hr
    · rw [if_neg hi] at hr ⊢; exact mono i v W W' hE hr
  · intro i hi ev vs W hE hin hout hcs hf hg hd o ho
    have ho' : l[i]? = some o := by simpa using ho
    obtain ⟨_, hsel, hlk⟩ := hxi i o hi ho'
    have hops : ∀ (s : Nat), Operand.tmp s ∈ o.op.operands → s ∈ o.looksAt l.toArray := fun s hs => List.mem_append_left _ (List.mem_filterMap.2 ⟨.tmp s, by simpa using hs, rfl⟩)
    rcases hbool i hi with hmi | hmi
    · have hcon := hc i o (Nat.zero_le _) hmi ho' W hE
      have he : execOp ev o = execOp (frG true l mask a c i).eval o := execOp_congr o hsel fun x hx => by
        have hr := frG_rest (b := true) (l := l) (mask := mask) (a := a) (c := c) i
        cases x with
        | tmp s =>
          rcases hslot s with ⟨j, p, hj, hp, hps⟩ | hs
          · obtain ⟨s', hs', hlook⟩ := hlk j p hj hp
            rw [hps] at hs'; injection hs' with hs'; subst hs'
            obtain ⟨hdp, hmj⟩ := hlook (hops s hx)
            have hix := (hdst j p hj hp).2.1
            rw [hps] at hix
            rw [hin s j hix, hC j p s hj hp hps (hmj hmi) i (hdep i hi j hdp)]
            have := hd j hdp
            simpa [hmj hmi] using this
          · rw [hout s (hnone s hs), frG_other i fun j p hj hp _ => hs j p (by omega) hp]
        | const v => rw [hcs, hr.1]; rfl
        | func f => rw [hf, hr.2.1]
        | global g => rw [hg, hr.2.2]
      rw [he]
      simp only [hmi, if_true]
      exact hcon
    · have hcon := freeM_at mask l 0 hfree i o hmi ho' vs W hE (fun j hj hmj => by
        have := hd j (by simpa using hj)
        simpa [hmj] using this)
      rw [Nat.zero_add, hput] at hcon
      have he : execOp ev o = execOp (frG false l mask (frG true l mask a c mask.length) vs mask.length).eval o := execOp_congr o hsel fun x hx => by
        have hr := frG_rest (b := false) (l := l) (mask := mask) (a := frG true l mask a c mask.length) (c := vs) mask.length
        have hr2 := frG_rest (b := true) (l := l) (mask := mask) (a := a) (c := c) mask.length
        cases x with
        | tmp s =>
          rcases hslot s with ⟨j, p, hj, hp, hps⟩ | hs
          · obtain ⟨s', hs', hlook⟩ := hlk j p hj hp
            rw [hps] at hs'; injection hs' with hs'; subst hs'
            obtain ⟨hdp, _⟩ := hlook (hops s hx)
            have hix := (hdst j p hj hp).2.1
            rw [hps] at hix
            rw [hin s j hix]
            rcases hbool j hj with hmj | hmj
            · rw [hF2 vs j p s hj hp hps hmj]
              have := hd j hdp
              simpa [hmj] using this
            · rw [hF1 vs j p s hj hp hps hmj]
          · rw [hout s (hnone s hs), frG_other mask.length fun j p hj hp _ => hs j p hj hp, frG_other mask.length fun j p hj hp _ => hs j p hj hp]
        | const v => rw [hcs, hr.1, hr2.1]; rfl
        | func f => rw [hf, hr.2.1, hr2.2.1]
        | global g => rw [hg, hr.2.2, hr2.2.2]
      rw [he]
      have e : (fun v W => if mask[i]? = some true then v = c i else R i v W) = R i := by
        funext v W; simp [hmi]
      rw [e]
      exact hcon
  · intro vs W hE hall
    have hkn : knowM R vs W mask 0 := knowM_of mask 0 fun i hi => by
      rw [Nat.zero_add]
      have hil := (List.getElem?_eq_some_iff.1 hi).1
      have := hall i hil
      simpa [hi] using this
    have hr := hrest vs W hE hkn
    have e : putHd a ((l.take mask.length).map fun o => o.dst.getD 0) vs = putM mask l 0 (frG true l mask a c mask.length) vs := by
      rw [hput]
      obtain ⟨t1, h1, h2⟩ := frG_shape true l mask a c mask.length
      obtain ⟨t2, h3, h4⟩ := frG_shape false l mask (frG true l mask a c mask.length) vs mask.length
      have h5 : t2.size = a.tmps.size := by rw [h3, h2]; exact h1
      have h6 : frG false l mask (frG true l mask a c mask.length) vs mask.length = { a with tmps := t2 } := by rw [h4, h2]
      unfold putHd
      rw [h6]
      congr 1
      apply Array.ext_getElem?
      intro s
      rw [Array.getElem?_mapIdx]
      by_cases hs : s < a.tmps.size
      · have hsv : ∀ u : Act, ∀ hu : s < u.tmps.size, u.tmps[s]? = some (u.eval (.tmp s)) := fun u hu => by simp [Act.eval, hu]
        have ha := hsv a hs
        have hb := hsv { a with tmps := t2 } (by show s < t2.size; omega)
        rw [ha]
        have hb' : t2[s]? = some ((frG false l mask (frG true l mask a c mask.length) vs mask.length).eval (.tmp s)) := by rw [h6]; exact hb
        rw [hb', Option.map_some]
        congr 1
        rcases hslot s with ⟨j, p, hj, hp, hps⟩ | hn
        · have hix := (hdst j p hj hp).2.1
          rw [hps] at hix
          simp only [Option.getD_some] at hix
          rw [hix]
          rcases hbool j hj with hmj | hmj
          · rw [hF2 vs j p s hj hp hps hmj]
            have := hall j hj
            simpa [hmj] using this
          · rw [hF1 vs j p s hj hp hps hmj]
        · rw [hnone s hn, frG_other mask.length fun j p hj hp _ => hn j p hj hp, frG_other mask.length fun j p hj hp _ => hn j p hj hp]
      · rw [Array.getElem?_eq_none (by omega), Array.getElem?_eq_none (by omega)]; rfl
    rw [e]
    exact hr
end
end Go.Proofs.Ytcjkechemjdboaa
