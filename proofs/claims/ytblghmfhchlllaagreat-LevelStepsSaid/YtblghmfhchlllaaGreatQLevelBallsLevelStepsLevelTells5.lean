/- Texts of this claim, one behind the other: Open, Post, Open5, Open4, LSteps7, LTells7. -/
import Derived.ProofKit
import Derived.Deep.Slices
import Derived.Deep.Fields
import Derived.ChangeSame
import Derived.Lib.SmallJoins
import Derived.Below
import Derived.Carry
import Derived.OpenShut
import Derived.Test.YtblghmfhchlllaaGreatProg
import Derived.Test.YtblghmfhchlllaaGreatQLevelBallsLevelStepsLevelTells4
/- An argument that is a graph, opened: what its slices read. -/
namespace Go.Proofs.YtblghmfhchlllaaGreat
open Go Go.RowKit Go.ChangeShapes Go.WideShapes Go.ChangeAt Go.Deep Go.Joins
theorem exists_list {α : Type} [Inhabited α] {n : Nat} {p : Nat → α → Prop} (h : ∀ i, i < n → ∃ x, p i x) : ∃ l : List α, l.length = n ∧ ∀ i, i < n → p i (nth l i) := by
  induction n with
  | zero => exact ⟨[], rfl, fun i hi => by omega⟩
  | succ n ih =>
    obtain ⟨l, hl, hp⟩ := ih fun i hi => h i (by omega)
    obtain ⟨x, hx⟩ := h n (by omega)
    refine ⟨l ++ [x], by simp [hl], fun i hi => ?_⟩
    by_cases e : i = n
    · subst e
      have : nth (l ++ [x]) i = x := by subst hl; exact nth_append_new _ _
      rw [this]; exact hx
    · rw [nth_append_left _ _ _ (by omega)]; exact hp i (by omega)
theorem spot_of_cell {w : World} {a : Addr} {v : Value} (h : w.cell? a = some v) : a = ⟨a.block, a.off, none⟩ := by
  unfold World.cell? at h
  split at h
  · split at h
    · cases h
    · rename_i hs
      obtain ⟨b, o, s⟩ := a
      cases s with
      | none => rfl
      | some s => simp at hs
  · cases h
theorem Rd.of_cells {w : World} {size n : Nat} {a : Addr} {xs : List Value} (h0 : 0 < size) (hlen : xs.length = n * size) (hs : n ≤ 9223372036854775807) (hc : ∀ j, j < n * size → w.cell? (a.add j) = some (xs.getD j undef)) : Rd w size (some a) n xs := by
  rcases Nat.eq_zero_or_pos n with hn | hn
  · subst hn
    have : xs = [] := List.eq_nil_of_length_eq_zero (by simpa using hlen)
    subst this
    exact Rd.nil _ _ _
  · have h1 := hc 0 (Nat.mul_pos hn h0)
    have ha := spot_of_cell (a := a) (by simpa [Addr.add] using h1)
    refine ⟨hlen, .inr ⟨_, _, by rw [ha]⟩, hs, fun j hj => ?_⟩
    rw [← hc j hj]
    congr 1
    rw [ha, adr_some]
    by_cases hj0 : j = 0
    · subst hj0; simp [Addr.add]
    · simp [Addr.add, hj0]
section
variable {H : Type} {enc : TypeId × Value → H} {w : World} {base : Nat} {spare : Nat → Bool} {held : Bool}
theorem open_slice_fields {P : Program} {t e : TypeId} {fs : Array Field} {fuel : Nat} {cs : List Value} {x : DataW H × List MemPlace} (ht : P.underlying t = some (.slice e)) (he : P.underlying e = some (.struct fs))
    (hone : oneCellFields P fs = true) (hC : P.cellsOf e = fs.size) (h : DataW.trod enc P w base spare held fuel t cs = some x) :
    (cs = [.slice none 0 0]) ∨
    ∃ (a : Addr) (len cap : Nat), cs = [.slice (some a) len cap] ∧ len ≤ cap ∧ cap ≤ maxLen ∧
      ∀ i, i < len → ∀ (j : Nat) (f : Field), fs[j]? = some f → ∃ (v : Value) (y : DataW H × List MemPlace) (n : Nat), w.cell? (a.add (i * fs.size + j)) = some v ∧ DataW.trod enc P w base spare held n f.type [v] = some y := by
  rcases open_slice ht h with h0 | ⟨a, len, cap, m, n, D, Pl, hcs, hb, hl, hm, hmm, hx, hi⟩
  · exact .inl h0.1
  · refine .inr ⟨a, len, cap, hcs, hl, hm, fun i hil j f hj => ?_⟩
    obtain ⟨cs', hc, ht'⟩ := hi i (by rw [hmm]; split <;> omega)
    rw [hC] at hc
    obtain ⟨ys, n', hn', hy, hlen, hyl, hf⟩ := DataW.trod_struct he ht'
    obtain ⟨_, hcl, hat⟩ := World.cells?_some hc
    obtain ⟨ho, hk⟩ := hone_of hone j f hj
    have hjl : j < fs.size := (Array.getElem?_eq_some_iff.1 hj).1
    have hcell := hat j hjl
    have hv : cs'[j]? = some (cs'[j]'(by omega)) := List.getElem?_eq_getElem (by omega)
    have h1 := hf j f hj
    rw [ho, hk] at h1
    have hone' : (cs'.drop j).take 1 = [cs'[j]'(by omega)] := by
      rw [List.drop_eq_getElem_cons (by omega)]
      rfl
    rw [hone'] at h1
    have hys : ys[j]? = some (ys[j]'(by omega)) := List.getElem?_eq_getElem (by omega)
    refine ⟨_, _, _, ?_, h1.trans hys⟩
    rw [← Go.Deep.add_add, hcell, hv]
theorem open_edges {t : TypeId} {fuel : Nat} {v : Value} {x : DataW H × List MemPlace} (ht : Tryz.prog.underlying t = some (.slice 44)) (h : DataW.trod enc Tryz.prog w base spare held fuel t [v] = some x) :
    ∃ p n c E, v = .slice p n c ∧ Rd w 2 p n (encE E) := by
  rcases open_slice_fields ht Tryz.underlying44 (by kernel_rfl) (by kernel_rfl) h with h0 | ⟨a, len, cap, hcs, hl, hm, hi⟩
  · simp at h0; exact ⟨none, 0, 0, [], h0, Rd.nil _ _ _⟩
  · simp at hcs
    have hl2 : len ≤ 9223372036854775807 := by unfold maxLen at hm; omega
    have hE : ∀ i, i < len → ∃ e : Int × Int, w.cell? (a.add (i * 2)) = some (.int .i64 e.1) ∧ w.cell? (a.add (i * 2 + 1)) = some (.int .i64 e.2) := by
      intro i hil
      obtain ⟨v1, y1, n1, c1, t1⟩ := hi i hil 0 _ rfl
      obtain ⟨v2, y2, n2, c2, t2⟩ := hi i hil 1 _ rfl
      obtain ⟨k1, e1, _⟩ := DataW.trod_int Tryz.underlying3 t1
      obtain ⟨k2, e2, _⟩ := DataW.trod_int Tryz.underlying3 t2
      simp at e1 e2
      subst e1 e2
      exact ⟨(k1, k2), c1, c2⟩
    obtain ⟨E, hEl, hEc⟩ := exists_list hE
    refine ⟨some a, len, cap, E, hcs, Rd.of_cells (by decide) (by rw [encE_len, hEl]) hl2 fun j hj => ?_⟩
    have hd : j / 2 < len := by omega
    obtain ⟨g1, g2⟩ := encE_get E (j / 2) (by omega)
    obtain ⟨h1, h2⟩ := hEc (j / 2) hd
    have hm2 : j = j / 2 * 2 ∨ j = j / 2 * 2 + 1 := by omega
    rcases hm2 with e | e
    · rw [e, g1]; exact h1
    · rw [e, g2]; exact h2
theorem open_texts {t : TypeId} {fuel : Nat} {v : Value} {x : DataW H × List MemPlace} (ht : Tryz.prog.underlying t = some (.slice 9)) (h : DataW.trod enc Tryz.prog w base spare held fuel t [v] = some x) :
    ∃ p n c l, v = .slice p n c ∧ Rd w 1 p n (encS l) := by
  rcases open_slice ht h with h0 | ⟨a, len, cap, m, n, D, Pl, hcs, hb, hl, hm, hmm, hx, hi⟩
  · obtain ⟨h0, _⟩ := h0; simp at h0; exact ⟨none, 0, 0, [], h0, Rd.nil _ _ _⟩
  · simp at hcs
    have hl2 : len ≤ 9223372036854775807 := by unfold maxLen at hm; omega
    have hc1 : Tryz.prog.cellsOf 9 = 1 := by kernel_rfl
    rw [hc1] at hi
    have hS : ∀ i, i < len → ∃ s : ByteArray, w.cell? (a.add i) = some (.string s) := by
      intro i hil
      obtain ⟨cs', hc, ht'⟩ := hi i (by rw [hmm]; split <;> omega)
      obtain ⟨s, e1, _⟩ := DataW.trod_string Tryz.underlying9 ht'
      obtain ⟨_, hcl, hat⟩ := World.cells?_some hc
      have := hat 0 (by decide)
      rw [Go.Deep.add_add, Nat.mul_one, Nat.add_zero, e1] at this
      exact ⟨s, this⟩
    obtain ⟨l, hll, hlc⟩ := exists_list hS
    refine ⟨some a, len, cap, l, hcs, Rd.of_cells (by decide) (by rw [encS_len, hll, Nat.mul_one]) hl2 fun j hj => ?_⟩
    rw [encS_get l j (by omega)]
    exact hlc j (by omega)
theorem open_rows {t : TypeId} {fuel : Nat} {v : Value} {x : DataW H × List MemPlace} (ht : Tryz.prog.underlying t = some (.slice 85)) (h : DataW.trod enc Tryz.prog w base spare held fuel t [v] = some x) :
    ∃ p n c hs W, v = .slice p n c ∧ RdW w p n hs W := by
  rcases open_slice ht h with h0 | ⟨a, len, cap, m, n, D, Pl, hcs, hb, hl, hm, hmm, hx, hi⟩
  · obtain ⟨h0, _⟩ := h0; simp at h0; exact ⟨none, 0, 0, [], [], h0, rfl, Rd.nil _ _ _, fun j hj => by omega⟩
  · simp at hcs
    have hl2 : len ≤ 9223372036854775807 := by unfold maxLen at hm; omega
    have hc1 : Tryz.prog.cellsOf 85 = 1 := by kernel_rfl
    rw [hc1] at hi
    have hS : ∀ i, i < len → ∃ q : Hd × List ByteArray, w.cell? (a.add i) = some (.slice q.1.p q.1.n q.1.c) ∧ Rd w 1 q.1.p q.1.n (encS q.2) := by
      intro i hil
      obtain ⟨cs', hc, ht'⟩ := hi i (by rw [hmm]; split <;> omega)
      obtain ⟨_, hcl, hat⟩ := World.cells?_some hc
      match cs', hcl with
      | [u], _ =>
        obtain ⟨p, n', c', l, e1, hr⟩ := open_texts Tryz.underlying85 ht'
        have := hat 0 (by decide)
        rw [Go.Deep.add_add, Nat.mul_one, Nat.add_zero, e1] at this
        exact ⟨(⟨p, n', c'⟩, l), this, hr⟩
    obtain ⟨l, hll, hlc⟩ := exists_list hS
    have hm : ∀ i, i < len → nth (l.map (·.1)) i = (nth l i).1 ∧ nth (l.map (·.2)) i = (nth l i).2 := fun i hil => by
      rw [nth_eq (l := l.map (·.1)) (by rw [List.length_map]; omega), nth_eq (l := l.map (·.2)) (by rw [List.length_map]; omega), nth_eq (l := l) (by omega)]; simp
    refine ⟨some a, len, cap, l.map (·.1), l.map (·.2), hcs, by simp, Rd.of_cells (by decide) (by rw [encH_len, List.length_map, hll, Nat.mul_one]) hl2 fun j hj => ?_, fun j hj => ?_⟩
    · rw [encH_get _ j (by simp; omega), (hm j (by omega)).1]
      exact (hlc j (by omega)).1
    · rw [(hm j hj).1, (hm j hj).2]
      exact (hlc j hj).2
set_option maxRecDepth 100000 in
/-- a graph by value -/
theorem open_graph {r : Reach} {b0 : Nat} {v : Value} {d : DataW H} {p : List MemPlace} (hv : Value.okWide Tryz.prog w r b0 55 v) (h : DataW.Trod enc Tryz.prog w base spare held 55 v d p) :
    ∃ N pe ne ce pw nw cw E hs W, v = .agg #[.int .i64 N, .slice pe ne ce, .slice pw nw cw] ∧ Rd w 2 pe ne (encE E) ∧ RdW w pw nw hs W := by
  obtain ⟨v0, v1, v2, y0, y1, y2, n, rfl, _, _, t0, t1, t2⟩ := open_agg3 Tryz.underlying55 (by kernel_rfl) (by kernel_rfl) hv h
  obtain ⟨N, e0, _⟩ := DataW.trod_int Tryz.underlying3 t0
  simp at e0
  subst e0
  obtain ⟨pe, ne, ce, E, rfl, hE⟩ := open_edges Tryz.underlying39 t1
  obtain ⟨pw, nw, cw, hs, W, rfl, hW⟩ := open_rows Tryz.underlying53 t2
  exact ⟨N, pe, ne, ce, pw, nw, cw, E, hs, W, rfl, hE, hW⟩
end
end Go.Proofs.YtblghmfhchlllaaGreat
/- The last step of a law's row: the result is true, the arguments read as they did, where the call only made memory. -/
namespace Go.Proofs.YtblghmfhchlllaaGreat
open Go Go.RowKit Go.WideShapes Go.ChangeShapes
theorem own : ownKnob Tryz.prog.godebug = none := by kernel_rfl
theorem laidOut : laidOutB Tryz.prog = true := by kernel_rfl
set_option maxRecDepth 100000 in
/-- true comes back, the arguments stay: what is left to show is their reading -/
theorem law_post {H : Type} {enc : TypeId × Value → H} {f : Func} {s : ChangeSpec} {apart fresh handsOn again : Bool} {W W' : World} {args : Array Value} {ds : List (DataW H)} {before : List MemPlace}
    (hW : DataW.Whole enc Tryz.prog f.params.toList s.vars apart W args.toList ds [] before) (ht : f.resultTypes = #[4]) (hvars : s.vars = [])
    (hfn : s.fn H (ds ++ []) = { results := [.lit (.bool true)], args := ds })
    (hargs : ∀ sp : Nat → Bool, (∀ p ∈ before, sp p.block = true) → DataW.TrodAll enc Tryz.prog W' 0 sp true f.params.toList args.toList ds before)
    (hb : Below W.heap.size W W') : s.post enc Tryz.prog f apart fresh handsOn again W args (.bool true) W' := by
  have lits : ∀ (b : Nat) (sp : Nat → Bool) (hd : Bool), DataW.TrodAll enc Tryz.prog W' b sp hd f.resultTypes.toList ((Value.bool true).resultList f.resultTypes.size) (s.fn H (ds ++ [])).results [] := by
    intro b sp hd
    rw [hfn, ht]
    exact trodAll_mk1 (shut_bool Tryz.underlying4 true)
  have hold : ∀ sp : Nat → Bool, (∀ p ∈ before, sp p.block = true) → DataW.TrodAll enc Tryz.prog W' 0 sp true f.params.toList args.toList (s.fn H (ds ++ [])).args before := by
    intro sp hsp
    rw [hfn]; exact hargs sp hsp
  have hv : ∀ sp : Nat → Bool, DataW.TrodVars enc Tryz.prog W' sp s.vars (s.fn H (ds ++ [])).vars [] := by
    intro sp; rw [hfn, hvars]; rfl
  have hin : ∀ p ∈ before, p.block < W.heap.size := fun p hp => hW.lt p hp
  have same : before = before ++ [] := by simp
  refine ⟨ds, [], before, [], before, [], hW, lits _ _ _, hold _ (fun p hp => by simpa using hin p hp), hv _, World.keptBut_mono (fun p hp => ⟨hp, .inr (by simpa using hp)⟩) (hb.frame (· ∈ before)), fun _ => ?_⟩
  have hW2 := hW
  obtain ⟨_, _, _, _, _, hz, hn⟩ := hW2
  refine ⟨ok_one (by rw [ht]) rfl (okWide_bool_mk Tryz.underlying4 _), _, _, ([] ++ before) ++ [], ⟨[] ++ before, [], trodAll_append (hold _ (fun _ _ => rfl)) (lits _ _ _), hv _, rfl, ?_, ?_⟩, ?_⟩
  · intro b off hp
    have hp2 : MemPlace.cell b off ∈ before := by simpa using hp
    rw [hb.frozen (hin _ hp2)]
    exact hz b off hp2
  · intro ha
    simpa using hn ha
  · intro p hp _
    simpa using hp
/-- an argument's reading, carried behind the call -/
theorem stays {H : Type} {enc : TypeId × Value → H} {W W' : World} {t : TypeId} {v : Value} {d : DataW H} {ps : List MemPlace} (hr : Tryz.prog.readableRec t = true) (hrow : t < Tryz.prog.types.size) (h : DataW.Trod enc Tryz.prog W 0 (fun _ => true) true t v d ps)
    (hb : Below W.heap.size W W') (hlt : ∀ x ∈ ps, x.block < W.heap.size) {sp : Nat → Bool} (hsp : ∀ x ∈ ps, sp x.block = true) : DataW.Trod enc Tryz.prog W' 0 sp true t v d ps :=
  WideElems.Trod_stays laidOut hr hrow h (fun x hx => hb.same (hlt x hx)) hsp
/-- all readings, one by one -/
theorem trodAll_turn {H : Type} {enc : TypeId × Value → H} {P : Program} {W W' : World} {sp sp' : Nat → Bool} {hd : Bool} (ts : List TypeId) : ∀ {vs : List Value} {ds : List (DataW H)} {ps : List MemPlace}, DataW.TrodAll enc P W 0 sp hd ts vs ds ps →
    (∀ t ∈ ts, ∀ v d p, (∀ x ∈ p, x ∈ ps) → DataW.Trod enc P W 0 sp hd t v d p → DataW.Trod enc P W' 0 sp' hd t v d p) → DataW.TrodAll enc P W' 0 sp' hd ts vs ds ps := by
  induction ts with
  | nil =>
    intro vs ds ps h _
    obtain ⟨rfl, rfl, rfl⟩ := trodAll_nil h
    exact trodAll_mk0
  | cons t ts ih =>
    intro vs ds ps h hk
    obtain ⟨v, vs', d, ds', p, q, rfl, rfl, rfl, h1, h2⟩ := trodAll_cons h
    exact trodAll_cons_mk (hk t (by simp) v d p (fun x hx => by simp [hx]) h1) (ih h2 fun t' ht' v' d' p' hp' h' => hk t' (by simp [ht']) v' d' p' (fun x hx => by simp [hp' x hx]) h')
/-- all arguments' reading, carried behind the call -/
theorem stays_all {H : Type} {enc : TypeId × Value → H} {W W' : World} {ts : List TypeId} {vs : List Value} {ds : List (DataW H)} {ps : List MemPlace} (hr : ts.all (fun t => Tryz.prog.readableRec t && decide (t < Tryz.prog.types.size)) = true)
    (h : DataW.TrodAll enc Tryz.prog W 0 (fun _ => true) true ts vs ds ps) (hb : Below W.heap.size W W') (hlt : ∀ x ∈ ps, x.block < W.heap.size) {sp : Nat → Bool} (hsp : ∀ x ∈ ps, sp x.block = true) : DataW.TrodAll enc Tryz.prog W' 0 sp true ts vs ds ps :=
  trodAll_turn ts h fun t ht v d p hp h1 => by
    have h2 := List.all_eq_true.1 hr t ht
    rw [Bool.and_eq_true, decide_eq_true_eq] at h2
    exact stays h2.1 h2.2 h1 hb (fun x hx => hlt x (hp x hx)) (fun x hx => hsp x (hp x hx))
end Go.Proofs.YtblghmfhchlllaaGreat
/- Arguments that are rows of numbers, of texts, of postings: what they read. -/
namespace Go.Proofs.YtblghmfhchlllaaGreat
open Go Go.RowKit Go.ChangeShapes Go.WideShapes Go.ChangeAt Go.Deep Go.Joins
section
variable {H : Type} {enc : TypeId × Value → H} {w : World} {base : Nat} {spare : Nat → Bool} {held : Bool}
theorem trod_ints {t : TypeId} {fuel : Nat} {v : Value} {x : DataW H × List MemPlace} (ht : Tryz.prog.underlying t = some (.slice 3)) (h : DataW.trod enc Tryz.prog w base spare held fuel t [v] = some x) :
    ∃ p n c l, v = .slice p n c ∧ n ≤ c ∧ Rd w 1 p n (encI l) ∧ ∀ x ∈ l, I64 x := by
  rcases open_slice ht h with h0 | ⟨a, len, cap, m, n, D, Pl, hcs, hb, hl, hm, hmm, hx, hi⟩
  · obtain ⟨h0, _⟩ := h0; simp at h0; exact ⟨none, 0, 0, [], h0, Nat.le_refl _, Rd.nil _ _ _, fun x hx => nomatch hx⟩
  · simp at hcs
    have hl2 : len ≤ 9223372036854775807 := by unfold maxLen at hm; omega
    have hc1 : Tryz.prog.cellsOf 3 = 1 := by kernel_rfl
    rw [hc1] at hi
    have hS : ∀ i, i < len → ∃ s : Int, w.cell? (a.add i) = some (.int .i64 s) ∧ I64 s := by
      intro i hil
      obtain ⟨cs', hc, ht'⟩ := hi i (by rw [hmm]; split <;> omega)
      obtain ⟨s, e1, _, hw⟩ := DataW.trod_int Tryz.underlying3 ht'
      obtain ⟨_, hcl, hat⟩ := World.cells?_some hc
      have := hat 0 (by decide)
      rw [Go.Deep.add_add, Nat.mul_one, Nat.add_zero, e1] at this
      exact ⟨s, this, hw⟩
    obtain ⟨l, hll, hlc⟩ := exists_list hS
    refine ⟨some a, len, cap, l, hcs, hl, Rd.of_cells (by decide) (by rw [encI_len, hll, Nat.mul_one]) hl2 fun j hj => ?_, fun x hx => ?_⟩
    · rw [encI_get l j (by omega)]
      exact (hlc j (by omega)).1
    · obtain ⟨j, hj, rfl⟩ := List.mem_iff_getElem.1 hx
      rw [← nth_eq hj]
      exact (hlc j (by omega)).2
theorem trod_texts {t : TypeId} {fuel : Nat} {v : Value} {x : DataW H × List MemPlace} (ht : Tryz.prog.underlying t = some (.slice 9)) (h : DataW.trod enc Tryz.prog w base spare held fuel t [v] = some x) :
    ∃ p n c l, v = .slice p n c ∧ n ≤ c ∧ Rd w 1 p n (encS l) := by
  obtain ⟨p, n, c, l, rfl, hr⟩ := open_texts ht h
  refine ⟨p, n, c, l, rfl, ?_, hr⟩
  rcases open_slice ht h with h0 | ⟨a, len, cap, m, n', D, Pl, hcs, hb, hl, _⟩
  · obtain ⟨h0, _⟩ := h0; simp at h0; omega
  · simp at hcs; omega
set_option maxRecDepth 100000 in
theorem open_top {t e : TypeId} {r : Reach} {b0 : Nat} {v : Value} {d : DataW H} {p : List MemPlace} (ht : Tryz.prog.underlying t = some (.slice e)) (hv : Value.okWide Tryz.prog w r b0 t v) (h : DataW.Trod enc Tryz.prog w base spare held t v d p) :
    ∃ fuel, DataW.trod enc Tryz.prog w base spare held fuel t [v] = some (d, p) := by
  obtain ⟨a, n, c, rfl⟩ := okWide_slice ht hv
  exact h
set_option maxRecDepth 100000 in
theorem open_introw {r : Reach} {b0 : Nat} {v : Value} {d : DataW H} {p : List MemPlace} (hv : Value.okWide Tryz.prog w r b0 22 v) (h : DataW.Trod enc Tryz.prog w base spare held 22 v d p) :
    ∃ p n c l, v = .slice p n c ∧ n ≤ c ∧ Rd w 1 p n (encI l) ∧ ∀ x ∈ l, I64 x := by
  obtain ⟨f, hf⟩ := open_top Tryz.underlying22 hv h
  exact trod_ints Tryz.underlying22 hf
set_option maxRecDepth 100000 in
theorem open_textrow {r : Reach} {b0 : Nat} {v : Value} {d : DataW H} {p : List MemPlace} (hv : Value.okWide Tryz.prog w r b0 85 v) (h : DataW.Trod enc Tryz.prog w base spare held 85 v d p) :
    ∃ p n c l, v = .slice p n c ∧ n ≤ c ∧ Rd w 1 p n (encS l) := by
  obtain ⟨f, hf⟩ := open_top Tryz.underlying85 hv h
  exact trod_texts Tryz.underlying85 hf
end
end Go.Proofs.YtblghmfhchlllaaGreat
/- An argument that is rows, opened. -/
namespace Go.Proofs.YtblghmfhchlllaaGreat
open Go Go.RowKit Go.ChangeShapes Go.WideShapes Go.ChangeAt Go.Deep Go.Joins
section
variable {H : Type} {enc : TypeId × Value → H} {w : World} {base : Nat} {spare : Nat → Bool} {held : Bool}
set_option maxRecDepth 100000 in
theorem open_rowsarg {r : Reach} {b0 : Nat} {v : Value} {d : DataW H} {p : List MemPlace} (hv : Value.okWide Tryz.prog w r b0 24 v) (h : DataW.Trod enc Tryz.prog w base spare held 24 v d p) :
    ∃ po no co O pt nt ct T pr nr cr R pv nv cv V, v = .agg #[.slice po no co, .slice pt nt ct, .slice pr nr cr, .slice pv nv cv] ∧ Rd w 1 po no (encI O) ∧ Rd w 1 pt nt (encI T) ∧ Rd w 1 pr nr (encI R) ∧ Rd w 1 pv nv (encI V) ∧ no ≤ co ∧ nt ≤ ct ∧ nr ≤ cr ∧ nv ≤ cv := by
  obtain ⟨v0, v1, v2, v3, y0, y1, y2, y3, n, rfl, _, _, t0, t1, t2, t3⟩ := open_agg4 Tryz.underlying24 (by kernel_rfl) (by kernel_rfl) hv h
  obtain ⟨po, no, co, O, rfl, c0, h0, _⟩ := trod_ints Tryz.underlying22 t0
  obtain ⟨pt, nt, ct, T, rfl, c1, h1, _⟩ := trod_ints Tryz.underlying22 t1
  obtain ⟨pr, nr, cr, R, rfl, c2, h2, _⟩ := trod_ints Tryz.underlying22 t2
  obtain ⟨pv, nv, cv, V, rfl, c3, h3, _⟩ := trod_ints Tryz.underlying22 t3
  exact ⟨po, no, co, O, pt, nt, ct, T, pr, nr, cr, R, pv, nv, cv, V, rfl, h0, h1, h2, h3, c0, c1, c2, c3⟩
end
end Go.Proofs.YtblghmfhchlllaaGreat
/- The law LevelSteps: a way leads at most one level further; each place of a level above 0 has one of the level below. -/
namespace Go.Proofs.YtblghmfhchlllaaGreat
open Go Go.RowKit
theorem int_beq_false {x y : Int} (h : x ≠ y) : (x == y) = false := by simpa using h
set_option maxRecDepth 100000 in
set_option maxHeartbeats 16000000 in
theorem lawSteps7 (po : Option Addr) (no co : Nat) (O : List Int) (pt : Option Addr) (nt ct : Nat) (T : List Int) (pr : Option Addr) (nr cr : Nat) (R : List Int) (pv : Option Addr) (nv cv : Nat) (V : List Int) (s : Int) (w : World) (hO : Rd w 1 po no (encI O)) (hT : Rd w 1 pt nt (encI T)) (hR : Rd w 1 pr nr (encI R)) (hV : Rd w 1 pv nv (encI V)) (hct : nt ≤ ct) (hcv : nv ≤ cv) : Calls Tryz.prog 7 #[.agg #[.slice po no co, .slice pt nt ct, .slice pr nr cr, .slice pv nv cv], .int .i64 s] w fun e w' => e = .returned (.bool true) ∧ Ext w w' := by
  obtain ⟨j0, hj0, hy0, hy1, hy2⟩ := info_parts infB
  have HBig := Lib.hid (fun W1 (h : Ext w W1) => Big04 po no co O pt nt ct T pr nr cr R pv nv cv V W1 (hO.ext h) (hT.ext h) (hR.ext h) (hV.ext h))
  have HA := Lib.hid (fun W1 (h : Ext w W1) => LevelsG po no co O pt nt ct T pr nr cr R pv nv cv V s false W1 (hO.ext h) (hT.ext h) (hR.ext h) (hV.ext h) hct hcv)
  have HE := Lib.hid (fun W1 (h : Ext w W1) => REdgesG po no co O pt nt ct T pr nr cr R pv nv cv V W1 (hO.ext h) (hT.ext h) (hR.ext h) (hV.ext h) hct hcv)
  have S0 := Lib.hid ((Sep.start w).al #[.slice po no co, .slice pt nt ct, .slice pr nr cr, .slice pv nv cv] 24 w.heap.size rfl)
  by_cases hc : levC (checkR O T R V) O s = 0
  · obtain ⟨hck, n, a, hno, rfl, ha⟩ := levC_zero hc
    have he : edgC (checkR O T R V) = 0 := by rw [hck]; rfl
    have hel : edgL (checkR O T R V) O T = pairs O T := by rw [hck]; rfl
    rw [hc] at HA
    rw [he, hel] at HE
    have e1 : levR (checkR O T R V) false O T R V a = (List.range n).map fun v => lev (rowL O T) n a v := by
      unfold levR; rw [if_pos hc, hno]; rfl
    have hll : ((List.range n).map fun v => lev (rowL O T) n a v).length = n := by simp
    rw [e1, hll] at HA
    cases hbig : bigR O T R V with
    | true =>
      rw [hbig] at HBig
      generalize ((List.range n).map fun v => lev (rowL O T) n a v) = A at *
      generalize pairs O T = E at *
      clear hO hT hR hV hct hcv hc hck hno ha he hel e1 hll hbig
      go_enter Tryz.func7, Tryz.ntmps7
      go_wp2_with (first | (go_at_call 10; go_must (refine (Levels7 _).mono ?_; rintro e wz ⟨rfl, hb⟩; have SZ := Lib.hid (S3.out.call hb); clear hb)) | (go_at_call 8; go_must (refine (HBig.out _ S2.out.ext).mono ?_; rintro e w3 ⟨rfl, hb1⟩; have S3 := Lib.hid (S2.out.call hb1); clear hb1)) | (go_at_call 23; go_must (refine (HE.out _ S1.out.ext).mono ?_; rintro e w2 ⟨q2, c2, rfl, Z⟩; have S2 := Lib.hid (S1.out.comp Z); have yz := (S2.out.blk 2 rfl).lt; have y0 := (S2.out.blk 2 rfl).cell 0; have y1 := (S2.out.blk 2 rfl).cell 1; have y2 := (S2.out.blk 2 rfl).cell 2; have y3 := (S2.out.blk 2 rfl).cell 3; clear Z)) | (go_at_call 11; go_must (refine (HA.out _ S0.out.ext).mono ?_; rintro e w1 ⟨q1, c1, rfl, Z⟩; have S1 := Lib.hid (S0.out.comp Z); have xz := (S1.out.blk 1 rfl).lt; have x0 := (S1.out.blk 1 rfl).cell 0; have x1 := (S1.out.blk 1 rfl).cell 1; have x2 := (S1.out.blk 1 rfl).cell 2; have x3 := (S1.out.blk 1 rfl).cell 3; clear Z)))
      go_ret
      exact ⟨rfl, SZ.out.ext⟩
    | false =>
      rw [hbig] at HBig
      obtain ⟨hE, hV2⟩ := steps_law hck hno ha rfl
      have r := offB_parts (halfB_off (checkR_half hck).2.2.1)
      have hn : n ≤ 200 := by omega
      generalize ((List.range n).map fun v => lev (rowL O T) n a v) = A at *
      have hEl : (pairs O T).length ≤ 9223372036854775807 := by
        have := (edgD_len (checkR_half hck).2.2.1 false : (edgD false O T).length ≤ _)
        have e : edgD false O T = pairs O T := rfl
        rw [e] at this; omega
      generalize pairs O T = E at *
      have HEE := Lib.hid hE
      have HVV := Lib.hid hV2
      clear hO hT hR hV hct hcv hc hck hno he hel e1 hll hbig hE hV2 r
      have S2' := Lib.hid S0.out
      go_enter Tryz.func7, Tryz.ntmps7
      go_wp2_with (first
        | (at_make; go_must (refine wpList_make_sep rfl _ _ _ rfl 4 j0 _ 1 Tryz.underlying42 hj0 hy0 hy1 (n:Int) n rfl rfl rfl (by rw [hy2]; omega) (by unfold maxLen; omega) S3.out ?_; intro w4 S'; rw [made_bool, ← belowL_0 A E n] at S'; have S4 := Lib.hid S'; clear S'))
        | (go_at_call 8; go_must (refine (HBig.out _ S2.out.ext).mono ?_; rintro e w3 ⟨rfl, hb1⟩; have S3 := Lib.hid (S2.out.call hb1); clear hb1)) | (go_at_call 23; go_must (refine (HE.out _ S1.out.ext).mono ?_; rintro e w2 ⟨q2, c2, rfl, Z⟩; have S2 := Lib.hid (S1.out.comp Z); have yz := (S2.out.blk 2 rfl).lt; have y0 := (S2.out.blk 2 rfl).cell 0; have y1 := (S2.out.blk 2 rfl).cell 1; have y2 := (S2.out.blk 2 rfl).cell 2; have y3 := (S2.out.blk 2 rfl).cell 3; clear Z)) | (go_at_call 11; go_must (refine (HA.out _ S0.out.ext).mono ?_; rintro e w1 ⟨q1, c1, rfl, Z⟩; have S1 := Lib.hid (S0.out.comp Z); have xz := (S1.out.blk 1 rfl).lt; have x0 := (S1.out.blk 1 rfl).cell 0; have x1 := (S1.out.blk 1 rfl).cell 1; have x2 := (S1.out.blk 1 rfl).cell 2; have x3 := (S1.out.blk 1 rfl).cell 3; clear Z)))
      generalize hqs : (some ⟨w3.heap.size, 0, none⟩ : Option Addr) = qs at *
      have S5 := Lib.hid (S4.out.pick [0, 1, 2] (by decide) rfl)
      clear hqs S0 S1 S2 S3 S4 S2' HA HE HBig x0 x1 x2 x3 xz y0 y1 y2 y3 yz
      go_loopw [10, 11, 12] (fun v10 _ _ wr => ∃ i : Nat, i ≤ E.length ∧ v10 = .int .i64 i ∧ Sep w wr [.own 4 1 qs n n (belowL A E n i), .own 44 2 q2 E.length c2 (encE E), .own 3 1 q1 n c1 (encI A)]) (fun v10 _ _ _ => E.length - (intOf v10).toNat)
      case atStart => exact ⟨0, Nat.zero_le _, rfl, S5.out⟩
      case round =>
        clear S5
        obtain ⟨i, hi, rfl, S⟩ := hrel
        have pE := (S.rdx 1 rfl).ptr
        have pA := (S.rdx 2 rfl).ptr
        have pS := (S.rdx 0 rfl).ptr
        by_cases hlt : i < E.length
        · have g1 := (S.rdx 1 rfl).cE hlt
          have g2 := (S.rdx 1 rfl).cE2 hlt
          obtain ⟨b1, b2, b3, b4, hst⟩ := HEE.out i hlt
          obtain ⟨f, hf⟩ : ∃ f : Nat, (nth E i).1 = (f:Int) := ⟨(nth E i).1.toNat, by omega⟩
          obtain ⟨g, hg⟩ : ∃ g : Nat, (nth E i).2 = (g:Int) := ⟨(nth E i).2.toNat, by omega⟩
          have hyes := fun h1 h2 => belowL_yes (A := A) (n := n) (b := g) hlt hg h1 h2
          have hno := belowL_no (A := A) (n := n) hlt
          rw [hf, hg, Int.toNat_natCast, Int.toNat_natCast] at hst hno
          rw [hf, Int.toNat_natCast] at hyes
          rw [hf] at g1 b1 b2
          rw [hg] at g2 b3 b4
          have hfn : f < n := by omega
          have hgn : g < n := by omega
          have g3 := (S.rdx 2 rfl).cI hfn
          have g4 := (S.rdx 2 rfl).cI hgn
          have fz := own_frozen (S.own 0 rfl) (by omega) g
          have cz := own_cell (S.own 0 rfl) (k := g) (by omega)
          rw [List.getD_eq_getElem?_getD, belowL_nth hgn, Option.getD_some] at cz
          have d1 : decide ((n:Int) ≤ f) = false := by simp; omega
          have d2 : decide ((n:Int) ≤ g) = false := by simp; omega
          have d3 : decide ((f:Int) < 0) = false := by simp
          have d4 : decide ((g:Int) < 0) = false := by simp
          have d5 : (0:Int) ≤ i := by omega
          have d6 : (i:Int) < E.length := by omega
          have x1 := HVV.out f hfn
          have x2 := HVV.out g hgn
          generalize nth A f = X at *
          generalize nth A g = Y at *
          generalize belowB A E i g = bb at *
          have s1 : -9223372036854775808 ≤ X + 1 := by omega
          have s2 : X + 1 ≤ 9223372036854775807 := by omega
          clear hf hg x1 x2
          by_cases hX : 0 ≤ X
          · have f1 : decide (0 ≤ X) = true := by simpa using hX
            obtain ⟨t1, t2⟩ := hst hX
            have f2 : decide (Y < 0) = false := by simpa using t1
            have f3 : decide (X + 1 < Y) = false := by simpa using t2
            by_cases hY : Y = X + 1
            · have f4 : (Y == X + 1) = true := by simpa using hY
              have HY := Lib.hid (hyes hX hY)
              clear hst hyes hno hX hY t1 t2
              have SH := Lib.hid S; clear S
              go_wp2
              go_roundw
              case rel => exact ⟨i + 1, by omega, by go_num, by rw [← HY.out]; exact SH.out.setRow 0 rfl g (by omega) (.bool true)⟩
              case measure => simp [intOf]; omega
            · have f4 : (Y == X + 1) = false := int_beq_false hY
              have HY := Lib.hid (hno fun h => hY h.2)
              clear hst hyes hno hX hY t1 t2 fz cz
              have SH := Lib.hid S; clear S
              go_wp2
              go_roundw
              case rel => exact ⟨i + 1, by omega, by go_num, by rw [HY.out]; exact SH.out⟩
              case measure => simp [intOf]; omega
          · have f1 : decide (0 ≤ X) = false := by simpa using hX
            have HY := Lib.hid (hno fun h => hX h.1)
            clear hst hyes hno hX fz cz
            have SH := Lib.hid S; clear S
            go_wp2
            go_roundw
            case rel => exact ⟨i + 1, by omega, by go_num, by rw [HY.out]; exact SH.out⟩
            case measure => simp [intOf]; omega
        · obtain rfl : i = E.length := by omega
          have SH := Lib.hid S; clear S
          go_wp2
          go_loopw [13] (fun v13 wx => ∃ v : Nat, v ≤ n ∧ v13 = .int .i64 v ∧ Sep w wx [.own 4 1 qs n n (belowL A E n E.length), .own 44 2 q2 E.length c2 (encE E), .own 3 1 q1 n c1 (encI A)]) (fun v13 _ => n - (intOf v13).toNat)
          case atStart => exact ⟨0, Nat.zero_le _, rfl, SH.out⟩
          case round =>
            clear SH pE pA pS
            obtain ⟨v, hv, rfl, S⟩ := hrel
            have pA := (S.rdx 2 rfl).ptr
            have pS := (S.rdx 0 rfl).ptr
            by_cases hlv : v < n
            · have g3 := (S.rdx 2 rfl).cI hlv
              have cz := own_cell (S.own 0 rfl) (k := v) (by omega)
              rw [List.getD_eq_getElem?_getD, belowL_nth hlv, Option.getD_some] at cz
              obtain ⟨t1, t2, t3, t4⟩ := HVV.out v hlv
              generalize nth A v = X at *
              have d1 : decide (X < -1) = false := by simp; omega
              have d5 : (0:Int) ≤ v := by omega
              have d6 : (v:Int) < n := by omega
              by_cases hX : 0 < X
              · have f1 : decide (0 < X) = true := by simpa using hX
                rw [t3 hX] at cz
                have f2 : (X == 0) = false := int_beq_false (by omega)
                have f3 : ((v:Int) == (a:Int)) = false := int_beq_false fun h => by have := t4.2 (by omega); omega
                clear t1 t2 t3 t4 hX
                have SJ := Lib.hid S; clear S
                go_wp2
                go_roundw
                case rel => exact ⟨v + 1, by omega, by go_num, SJ.out⟩
                case measure => simp [intOf]; omega
              · have f1 : decide (0 < X) = false := by simpa using hX
                generalize belowB A E E.length v = bb at *
                by_cases hX0 : X = 0
                · have hva := t4.1 hX0
                  have f2 : (X == 0) = true := by simpa using hX0
                  have f3 : ((v:Int) == (a:Int)) = true := by simp; omega
                  clear t1 t2 t3 t4 hX hX0 hva
                  have SJ := Lib.hid S; clear S
                  go_wp2
                  go_roundw
                  case rel => exact ⟨v + 1, by omega, by go_num, SJ.out⟩
                  case measure => simp [intOf]; omega
                · have f2 : (X == 0) = false := int_beq_false hX0
                  have f3 : ((v:Int) == (a:Int)) = false := int_beq_false fun h => hX0 (t4.2 (by omega))
                  clear t1 t2 t3 t4 hX hX0
                  have SJ := Lib.hid S; clear S
                  go_wp2
                  go_roundw
                  case rel => exact ⟨v + 1, by omega, by go_num, SJ.out⟩
                  case measure => simp [intOf]; omega
            · obtain rfl : v = n := by omega
              have SJ := Lib.hid S; clear S
              go_wp2_with (go_at_call 10; go_must (refine (Levels7 _).mono ?_; rintro e wz ⟨rfl, hb⟩; have SZ := Lib.hid (SJ.out.call hb); clear hb))
              go_ret
              exact ⟨rfl, SZ.out.ext⟩
  · have e : levR (checkR O T R V) false O T R V s = [] := by unfold levR; rw [if_neg hc]
    rw [e] at HA
    generalize levC (checkR O T R V) O s = cc at *
    generalize edgC (checkR O T R V) = ec at *
    generalize edgL (checkR O T R V) O T = E at *
    have hc0 : (cc != 0) = true := by simpa using hc
    have hc1 : (cc == 0) = false := int_beq_false hc
    clear hO hT hR hV hct hcv hc e
    cases hbig : bigR O T R V with
    | true =>
      rw [hbig] at HBig
      clear hbig
      go_enter Tryz.func7, Tryz.ntmps7
      go_wp2_with (first | (go_at_call 10; go_must (refine (Levels7 _).mono ?_; rintro e wz ⟨rfl, hb⟩; have SZ := Lib.hid (S3.out.call hb); clear hb)) | (go_at_call 8; go_must (refine (HBig.out _ S2.out.ext).mono ?_; rintro e w3 ⟨rfl, hb1⟩; have S3 := Lib.hid (S2.out.call hb1); clear hb1)) | (go_at_call 23; go_must (refine (HE.out _ S1.out.ext).mono ?_; rintro e w2 ⟨q2, c2, rfl, Z⟩; have S2 := Lib.hid (S1.out.comp Z); have yz := (S2.out.blk 2 rfl).lt; have y0 := (S2.out.blk 2 rfl).cell 0; have y1 := (S2.out.blk 2 rfl).cell 1; have y2 := (S2.out.blk 2 rfl).cell 2; have y3 := (S2.out.blk 2 rfl).cell 3; clear Z)) | (go_at_call 11; go_must (refine (HA.out _ S0.out.ext).mono ?_; rintro e w1 ⟨q1, c1, rfl, Z⟩; have S1 := Lib.hid (S0.out.comp Z); have xz := (S1.out.blk 1 rfl).lt; have x0 := (S1.out.blk 1 rfl).cell 0; have x1 := (S1.out.blk 1 rfl).cell 1; have x2 := (S1.out.blk 1 rfl).cell 2; have x3 := (S1.out.blk 1 rfl).cell 3; clear Z)))
      go_ret
      exact ⟨rfl, SZ.out.ext⟩
    | false =>
      rw [hbig] at HBig
      clear hbig
      go_enter Tryz.func7, Tryz.ntmps7
      go_wp2_with (first | (go_at_call 10; go_must (refine (Levels7 _).mono ?_; rintro e wz ⟨rfl, hb⟩; have SZ := Lib.hid (S3.out.call hb); clear hb)) | (go_at_call 8; go_must (refine (HBig.out _ S2.out.ext).mono ?_; rintro e w3 ⟨rfl, hb1⟩; have S3 := Lib.hid (S2.out.call hb1); clear hb1)) | (go_at_call 23; go_must (refine (HE.out _ S1.out.ext).mono ?_; rintro e w2 ⟨q2, c2, rfl, Z⟩; have S2 := Lib.hid (S1.out.comp Z); have yz := (S2.out.blk 2 rfl).lt; have y0 := (S2.out.blk 2 rfl).cell 0; have y1 := (S2.out.blk 2 rfl).cell 1; have y2 := (S2.out.blk 2 rfl).cell 2; have y3 := (S2.out.blk 2 rfl).cell 3; clear Z)) | (go_at_call 11; go_must (refine (HA.out _ S0.out.ext).mono ?_; rintro e w1 ⟨q1, c1, rfl, Z⟩; have S1 := Lib.hid (S0.out.comp Z); have xz := (S1.out.blk 1 rfl).lt; have x0 := (S1.out.blk 1 rfl).cell 0; have x1 := (S1.out.blk 1 rfl).cell 1; have x2 := (S1.out.blk 1 rfl).cell 2; have x3 := (S1.out.blk 1 rfl).cell 3; clear Z)))
      go_ret
      exact ⟨rfl, SZ.out.ext⟩
end Go.Proofs.YtblghmfhchlllaaGreat
/- The law LevelTells: places have just these levels; just these are reached, near, or ahead, or it is refused. -/
namespace Go.Proofs.YtblghmfhchlllaaGreat
open Go Go.RowKit
set_option maxRecDepth 100000 in
set_option maxHeartbeats 16000000 in
theorem lawTells7 (po : Option Addr) (no co : Nat) (O : List Int) (pt : Option Addr) (nt ct : Nat) (T : List Int) (pr : Option Addr) (nr cr : Nat) (R : List Int) (pv : Option Addr) (nv cv : Nat) (V : List Int) (s rad : Int) (back : Bool) (pl : Option Addr) (nl cl : Nat) (l : List Int) (w : World) (hO : Rd w 1 po no (encI O)) (hT : Rd w 1 pt nt (encI T)) (hR : Rd w 1 pr nr (encI R)) (hV : Rd w 1 pv nv (encI V)) (hct : nt ≤ ct) (hcv : nv ≤ cv) (hl : Rd w 1 pl nl (encI l)) : Calls Tryz.prog 5 #[.agg #[.slice po no co, .slice pt nt ct, .slice pr nr cr, .slice pv nv cv], .int .i64 s, .int .i64 rad, .bool back, .slice pl nl cl] w fun e w' => e = .returned (.bool true) ∧ Ext w w' := by
  have HBig := Lib.hid (fun W1 (h : Ext w W1) => Big04 po no co O pt nt ct T pr nr cr R pv nv cv V W1 (hO.ext h) (hT.ext h) (hR.ext h) (hV.ext h))
  have S0 := Lib.hid ((Sep.start w).al #[.slice po no co, .slice pt nt ct, .slice pr nr cr, .slice pv nv cv] 24 w.heap.size rfl)
  cases hbig : bigR O T R V with
  | true =>
    rw [hbig] at HBig
    clear hO hT hR hV hl
    go_enter Tryz.func5, Tryz.ntmps5
    go_wp2_with (go_at_call 8; go_must (refine (HBig.out _ S0.out.ext).mono ?_; rintro e w1 ⟨rfl, hb1⟩; have S1 := Lib.hid (S0.out.call hb1); have xz := (S1.out.blk 0 rfl).lt; have x0 := (S1.out.blk 0 rfl).cell 0; have x1 := (S1.out.blk 0 rfl).cell 1; have x2 := (S1.out.blk 0 rfl).cell 2; have x3 := (S1.out.blk 0 rfl).cell 3; clear hb1))
    go_ret
    exact ⟨rfl, S1.out.ext⟩
  | false =>
    rw [hbig] at HBig
    by_cases h40 : 40 < nl
    · have c1 : decide ((40:Int) < nl) = true := by simp; omega
      clear hO hT hR hV hl h40
      go_enter Tryz.func5, Tryz.ntmps5
      go_wp2_with (go_at_call 8; go_must (refine (HBig.out _ S0.out.ext).mono ?_; rintro e w1 ⟨rfl, hb1⟩; have S1 := Lib.hid (S0.out.call hb1); have xz := (S1.out.blk 0 rfl).lt; have x0 := (S1.out.blk 0 rfl).cell 0; have x1 := (S1.out.blk 0 rfl).cell 1; have x2 := (S1.out.blk 0 rfl).cell 2; have x3 := (S1.out.blk 0 rfl).cell 3; clear hb1))
      go_ret
      exact ⟨rfl, S1.out.ext⟩
    · have c1 : decide ((40:Int) < nl) = false := by simp; omega
      have hbd := bigR_bd hbig
      have l1 := hO.nI
      have l2 := hT.nI
      have l3 := hR.nI
      have l4 := hV.nI
      have HOwn := Lib.hid (fun W1 (h : Ext w W1) => Own04 po no co O pt nt ct T pr nr cr R pv nv cv V W1 (hO.ext h) (hT.ext h) (hR.ext h) (hV.ext h) (by omega) (by omega) (by omega) (by omega))
      have HSame := Lib.hid (fun (qo : Option Addr) (do' : Nat) (qt : Option Addr) (dt : Nat) (qr : Option Addr) (dr : Nat) (qv : Option Addr) (dv : Nat) W1 (h0 : Ext w W1) (h : R4 W1 qo no qt nt qr nr qv nv O T R V) => Same04T po no co O pt nt ct T pr nr cr R pv nv cv V qo no do' qt nt dt qr nr dr qv nv dv W1 (hO.ext h0) (hT.ext h0) (hR.ext h0) (hV.ext h0) h.o h.t h.r h.v)
      have HL := Lib.hid (fun W1 (h : Ext w W1) => LevelsG po no co O pt nt ct T pr nr cr R pv nv cv V s back W1 (hO.ext h) (hT.ext h) (hR.ext h) (hV.ext h) hct hcv)
      have HL7 := Lib.hid (fun (qo : Option Addr) (do' : Nat) (qt : Option Addr) (dt : Nat) (qr : Option Addr) (dr : Nat) (qv : Option Addr) (dv : Nat) W1 (h : R4 W1 qo no qt nt qr nr qv nv O T R V) (h1 : nt ≤ dt) (h2 : nv ≤ dv) (h3 : Ext w W1) => Levels07 qo no do' O qt nt dt T qr nr dr R qv nv dv V W1 s back h.o h.t h.r h.v h1 h2)
      have HR := Lib.hid (fun W1 (h : Ext w W1) => ReachG po no co O pt nt ct T pr nr cr R pv nv cv V s back W1 (hO.ext h) (hT.ext h) (hR.ext h) (hV.ext h) hct hcv)
      have HR7 := Lib.hid (fun (qo : Option Addr) (do' : Nat) (qt : Option Addr) (dt : Nat) (qr : Option Addr) (dr : Nat) (qv : Option Addr) (dv : Nat) W1 (h : R4 W1 qo no qt nt qr nr qv nv O T R V) (h1 : nt ≤ dt) (h2 : nv ≤ dv) (h3 : Ext w W1) => Reach07 qo no do' O qt nt dt T qr nr dr R qv nv dv V s back W1 h.o h.t h.r h.v h1 h2)
      have HF := Lib.hid (fun W1 (h : Ext w W1) => FrontG po no co O pt nt ct T pr nr cr R pv nv cv V pl nl cl l back W1 (hO.ext h) (hT.ext h) (hR.ext h) (hV.ext h) hct hcv (hl.ext h) (by omega))
      have HF7 := Lib.hid (fun (qo : Option Addr) (do' : Nat) (qt : Option Addr) (dt : Nat) (qr : Option Addr) (dr : Nat) (qv : Option Addr) (dv : Nat) W1 (h : R4 W1 qo no qt nt qr nr qv nv O T R V) (h1 : nt ≤ dt) (h2 : nv ≤ dv) (h3 : Ext w W1) => Front07 qo no do' O qt nt dt T qr nr dr R qv nv dv V pl nl cl l back W1 h.o h.t h.r h.v h1 h2 (hl.ext h3))
      have HB8 := Lib.hid (fun W1 (h : Ext w W1) => BallG po no co O pt nt ct T pr nr cr R pv nv cv V s rad back W1 (hO.ext h) (hT.ext h) (hR.ext h) (hV.ext h) hct hcv)
      have HB7 := Lib.hid (fun (qo : Option Addr) (do' : Nat) (qt : Option Addr) (dt : Nat) (qr : Option Addr) (dr : Nat) (qv : Option Addr) (dv : Nat) W1 (h : R4 W1 qo no qt nt qr nr qv nv O T R V) (h1 : nt ≤ dt) (h2 : nv ≤ dv) (h3 : Ext w W1) => Ball07 qo no do' O qt nt dt T qr nr dr R qv nv dv V s rad back W1 h.o h.t h.r h.v h1 h2)
      generalize frontV (checkR O T R V) back O T l = FV at *
      generalize openC (checkR O T R V) O l = oc at *
      generalize ballV (checkR O T R V) back O T R V s 200 = RV2 at *
      generalize ballC (checkR O T R V) O s 200 = rc at *
      generalize ballV (checkR O T R V) back O T R V s rad = BV at *
      generalize ballC (checkR O T R V) O s rad = bc at *
      generalize levR (checkR O T R V) back O T R V s = LV at *
      generalize levC (checkR O T R V) O s = lc at *
      clear hO hT hR hV hl hbig hbd l1 l2 l3 l4 h40
      go_enter Tryz.func5, Tryz.ntmps5
      go_wp2_with (first
        | (go_at_call 21; go_must (refine (HSame.out qo do' qt dt qr dr qv dv _ (Ext.trans E2.out S15.out.ext) (KO.out.ext S15.out.ext)).mono ?_; rintro e w16 ⟨rfl, hb⟩; have S16 := Lib.hid (S15.out.call hb); clear hb))
        | (go_at_call 20; have _t := S14; go_must (refine (IntsY _ _ _ _ _ _ BV _ (S14.out.rdx 1 rfl) (S14.out.rdx 0 rfl)).mono ?_; rintro e w15 ⟨rfl, hb⟩; have S15 := Lib.hid (S14.out.call hb); have x15z := Nat.lt_of_lt_of_le HB.out.lt S15.out.ext.size; have x150 := S15.out.ext.cell (HB.out.cell 0); have x151 := S15.out.ext.cell (HB.out.cell 1); have x152 := S15.out.ext.cell (HB.out.cell 2); have x153 := S15.out.ext.cell (HB.out.cell 3); have y15z := (S15.out.blk 8 rfl).lt; have y150 := (S15.out.blk 8 rfl).cell 0; have y151 := (S15.out.blk 8 rfl).cell 1; have y152 := (S15.out.blk 8 rfl).cell 2; have y153 := (S15.out.blk 8 rfl).cell 3; clear hb))
        | (go_at_call 20; have _t := S13; go_must (refine (IntsY _ _ _ _ _ _ FV _ (S13.out.rdx 3 rfl) (S13.out.rdx 2 rfl)).mono ?_; rintro e w14 ⟨rfl, hb⟩; have S14 := Lib.hid (S13.out.call hb); have x14z := Nat.lt_of_lt_of_le HB.out.lt S14.out.ext.size; have x140 := S14.out.ext.cell (HB.out.cell 0); have x141 := S14.out.ext.cell (HB.out.cell 1); have x142 := S14.out.ext.cell (HB.out.cell 2); have x143 := S14.out.ext.cell (HB.out.cell 3); have y14z := (S14.out.blk 8 rfl).lt; have y140 := (S14.out.blk 8 rfl).cell 0; have y141 := (S14.out.blk 8 rfl).cell 1; have y142 := (S14.out.blk 8 rfl).cell 2; have y143 := (S14.out.blk 8 rfl).cell 3; clear hb))
        | (go_at_call 10; go_must (refine (Levels7 _).mono ?_; rintro e w13 ⟨rfl, hb⟩; have S13 := Lib.hid (S12.out.call hb); have x13z := Nat.lt_of_lt_of_le HB.out.lt S13.out.ext.size; have x130 := S13.out.ext.cell (HB.out.cell 0); have x131 := S13.out.ext.cell (HB.out.cell 1); have x132 := S13.out.ext.cell (HB.out.cell 2); have x133 := S13.out.ext.cell (HB.out.cell 3); have y13z := (S13.out.blk 8 rfl).lt; have y130 := (S13.out.blk 8 rfl).cell 0; have y131 := (S13.out.blk 8 rfl).cell 1; have y132 := (S13.out.blk 8 rfl).cell 2; have y133 := (S13.out.blk 8 rfl).cell 3; clear hb))
        | (go_at_call 20; have _t := S11; go_must (refine (IntsY _ _ _ _ _ _ RV2 _ (S11.out.rdx 5 rfl) (S11.out.rdx 4 rfl)).mono ?_; rintro e w12 ⟨rfl, hb⟩; have S12 := Lib.hid (S11.out.call hb); have x12z := Nat.lt_of_lt_of_le HB.out.lt S12.out.ext.size; have x120 := S12.out.ext.cell (HB.out.cell 0); have x121 := S12.out.ext.cell (HB.out.cell 1); have x122 := S12.out.ext.cell (HB.out.cell 2); have x123 := S12.out.ext.cell (HB.out.cell 3); have y12z := (S12.out.blk 8 rfl).lt; have y120 := (S12.out.blk 8 rfl).cell 0; have y121 := (S12.out.blk 8 rfl).cell 1; have y122 := (S12.out.blk 8 rfl).cell 2; have y123 := (S12.out.blk 8 rfl).cell 3; clear hb))
        | (go_at_call 20; have _t := S10; go_must (refine (IntsY _ _ _ _ _ _ LV _ (S10.out.rdx 7 rfl) (S10.out.rdx 6 rfl)).mono ?_; rintro e w11 ⟨rfl, hb⟩; have S11 := Lib.hid (S10.out.call hb); have x11z := Nat.lt_of_lt_of_le HB.out.lt S11.out.ext.size; have x110 := S11.out.ext.cell (HB.out.cell 0); have x111 := S11.out.ext.cell (HB.out.cell 1); have x112 := S11.out.ext.cell (HB.out.cell 2); have x113 := S11.out.ext.cell (HB.out.cell 3); have y11z := (S11.out.blk 8 rfl).lt; have y110 := (S11.out.blk 8 rfl).cell 0; have y111 := (S11.out.blk 8 rfl).cell 1; have y112 := (S11.out.blk 8 rfl).cell 2; have y113 := (S11.out.blk 8 rfl).cell 3; clear hb))
        | (go_at_call 19; go_must (refine (HB7.out qo do' qt dt qr dr qv dv _ (KO.out.ext S9.out.ext) C1 C2 (Ext.trans E2.out S9.out.ext)).mono ?_; rintro e w10 ⟨q10, c10, rfl, Z⟩; have S10 := Lib.hid (S9.out.comp Z); have x10z := Nat.lt_of_lt_of_le HB.out.lt S10.out.ext.size; have x100 := S10.out.ext.cell (HB.out.cell 0); have x101 := S10.out.ext.cell (HB.out.cell 1); have x102 := S10.out.ext.cell (HB.out.cell 2); have x103 := S10.out.ext.cell (HB.out.cell 3); have y10z := (S10.out.blk 8 rfl).lt; have y100 := (S10.out.blk 8 rfl).cell 0; have y101 := (S10.out.blk 8 rfl).cell 1; have y102 := (S10.out.blk 8 rfl).cell 2; have y103 := (S10.out.blk 8 rfl).cell 3; clear Z))
        | (go_at_call 18; go_must (refine (HB8.out _ (Ext.trans E2.out S8.out.ext)).mono ?_; rintro e w9 ⟨q9, c9, rfl, Z⟩; have S9 := Lib.hid (S8.out.comp Z); have x9z := Nat.lt_of_lt_of_le HB.out.lt S9.out.ext.size; have x90 := S9.out.ext.cell (HB.out.cell 0); have x91 := S9.out.ext.cell (HB.out.cell 1); have x92 := S9.out.ext.cell (HB.out.cell 2); have x93 := S9.out.ext.cell (HB.out.cell 3); have y9z := (S9.out.blk 7 rfl).lt; have y90 := (S9.out.blk 7 rfl).cell 0; have y91 := (S9.out.blk 7 rfl).cell 1; have y92 := (S9.out.blk 7 rfl).cell 2; have y93 := (S9.out.blk 7 rfl).cell 3; clear Z))
        | (go_at_call 17; go_must (refine (HF7.out qo do' qt dt qr dr qv dv _ (KO.out.ext S7.out.ext) C1 C2 (Ext.trans E2.out S7.out.ext)).mono ?_; rintro e w8 ⟨q8, c8, rfl, Z⟩; have S8 := Lib.hid (S7.out.comp Z); have x8z := Nat.lt_of_lt_of_le HB.out.lt S8.out.ext.size; have x80 := S8.out.ext.cell (HB.out.cell 0); have x81 := S8.out.ext.cell (HB.out.cell 1); have x82 := S8.out.ext.cell (HB.out.cell 2); have x83 := S8.out.ext.cell (HB.out.cell 3); have y8z := (S8.out.blk 6 rfl).lt; have y80 := (S8.out.blk 6 rfl).cell 0; have y81 := (S8.out.blk 6 rfl).cell 1; have y82 := (S8.out.blk 6 rfl).cell 2; have y83 := (S8.out.blk 6 rfl).cell 3; clear Z))
        | (go_at_call 16; go_must (refine (HF.out _ (Ext.trans E2.out S6.out.ext)).mono ?_; rintro e w7 ⟨q7, c7, rfl, Z⟩; have S7 := Lib.hid (S6.out.comp Z); have x7z := Nat.lt_of_lt_of_le HB.out.lt S7.out.ext.size; have x70 := S7.out.ext.cell (HB.out.cell 0); have x71 := S7.out.ext.cell (HB.out.cell 1); have x72 := S7.out.ext.cell (HB.out.cell 2); have x73 := S7.out.ext.cell (HB.out.cell 3); have y7z := (S7.out.blk 5 rfl).lt; have y70 := (S7.out.blk 5 rfl).cell 0; have y71 := (S7.out.blk 5 rfl).cell 1; have y72 := (S7.out.blk 5 rfl).cell 2; have y73 := (S7.out.blk 5 rfl).cell 3; clear Z))
        | (go_at_call 15; go_must (refine (HR7.out qo do' qt dt qr dr qv dv _ (KO.out.ext S5.out.ext) C1 C2 (Ext.trans E2.out S5.out.ext)).mono ?_; rintro e w6 ⟨q6, c6, rfl, Z⟩; have S6 := Lib.hid (S5.out.comp Z); have x6z := Nat.lt_of_lt_of_le HB.out.lt S6.out.ext.size; have x60 := S6.out.ext.cell (HB.out.cell 0); have x61 := S6.out.ext.cell (HB.out.cell 1); have x62 := S6.out.ext.cell (HB.out.cell 2); have x63 := S6.out.ext.cell (HB.out.cell 3); have y6z := (S6.out.blk 4 rfl).lt; have y60 := (S6.out.blk 4 rfl).cell 0; have y61 := (S6.out.blk 4 rfl).cell 1; have y62 := (S6.out.blk 4 rfl).cell 2; have y63 := (S6.out.blk 4 rfl).cell 3; clear Z))
        | (go_at_call 14; go_must (refine (HR.out _ (Ext.trans E2.out S4.out.ext)).mono ?_; rintro e w5 ⟨q5, c5, rfl, Z⟩; have S5 := Lib.hid (S4.out.comp Z); have x5z := Nat.lt_of_lt_of_le HB.out.lt S5.out.ext.size; have x50 := S5.out.ext.cell (HB.out.cell 0); have x51 := S5.out.ext.cell (HB.out.cell 1); have x52 := S5.out.ext.cell (HB.out.cell 2); have x53 := S5.out.ext.cell (HB.out.cell 3); have y5z := (S5.out.blk 3 rfl).lt; have y50 := (S5.out.blk 3 rfl).cell 0; have y51 := (S5.out.blk 3 rfl).cell 1; have y52 := (S5.out.blk 3 rfl).cell 2; have y53 := (S5.out.blk 3 rfl).cell 3; clear Z))
        | (go_at_call 13; go_must (refine (HL7.out qo do' qt dt qr dr qv dv _ (KO.out.ext S3.out.ext) C1 C2 (Ext.trans E2.out S3.out.ext)).mono ?_; rintro e w4 ⟨q4, c4, rfl, Z⟩; have S4 := Lib.hid (S3.out.comp Z); have x4z := Nat.lt_of_lt_of_le HB.out.lt S4.out.ext.size; have x40 := S4.out.ext.cell (HB.out.cell 0); have x41 := S4.out.ext.cell (HB.out.cell 1); have x42 := S4.out.ext.cell (HB.out.cell 2); have x43 := S4.out.ext.cell (HB.out.cell 3); have y4z := (S4.out.blk 2 rfl).lt; have y40 := (S4.out.blk 2 rfl).cell 0; have y41 := (S4.out.blk 2 rfl).cell 1; have y42 := (S4.out.blk 2 rfl).cell 2; have y43 := (S4.out.blk 2 rfl).cell 3; clear Z))
        | (go_at_call 11; go_must (refine (HL.out _ (Ext.trans E2.out S2.out.ext)).mono ?_; rintro e w3 ⟨q3, c3, rfl, Z⟩; have S3 := Lib.hid (S2.out.comp Z); have x3z := Nat.lt_of_lt_of_le HB.out.lt S3.out.ext.size; have x30 := S3.out.ext.cell (HB.out.cell 0); have x31 := S3.out.ext.cell (HB.out.cell 1); have x32 := S3.out.ext.cell (HB.out.cell 2); have x33 := S3.out.ext.cell (HB.out.cell 3); have y3z := (S3.out.blk 1 rfl).lt; have y30 := (S3.out.blk 1 rfl).cell 0; have y31 := (S3.out.blk 1 rfl).cell 1; have y32 := (S3.out.blk 1 rfl).cell 2; have y33 := (S3.out.blk 1 rfl).cell 3; clear Z))
        | (go_at_call 12; go_must (refine (HOwn.out _ S1.out.ext).mono ?_; rintro e wo ⟨qo, do', qt, dt, qr, dr, qv, dv, rfl, k1, C1, C2, k2⟩; have KO := Lib.hid k1; have E2 := Lib.hid (Ext.trans S1.out.ext k2); have HB := Lib.hid ((S1.out.call k2).blk 0 rfl); have S2 := Lib.hid ((Sep.start wo).al #[.slice qo no do', .slice qt nt dt, .slice qr nr dr, .slice qv nv dv] 24 wo.heap.size rfl); have x20 := k2.cell x0; have x21 := k2.cell x1; have x22 := k2.cell x2; have x23 := k2.cell x3; have x2z := HB.out.lt; clear k1 k2))
        | (go_at_call 8; go_must (refine (HBig.out _ S0.out.ext).mono ?_; rintro e w1 ⟨rfl, hb1⟩; have S1 := Lib.hid (S0.out.call hb1); have xz := (S1.out.blk 0 rfl).lt; have x0 := (S1.out.blk 0 rfl).cell 0; have x1 := (S1.out.blk 0 rfl).cell 1; have x2 := (S1.out.blk 0 rfl).cell 2; have x3 := (S1.out.blk 0 rfl).cell 3; clear hb1)))
      go_ret
      exact ⟨rfl, Ext.trans E2.out S16.out.ext⟩
end Go.Proofs.YtblghmfhchlllaaGreat
