/- Maps with integer keys, as functions; ranging over one while other blocks are written. -/
import Derived.Test.YtcjkechemjdboaaSep
import Derived.Maps.RangeWalk
import Derived.Maps.OwnSet
namespace Go.Proofs.Ytcjkechemjdboaa
open Go Go.RowKit Go.Maps Go.WideElems
/-- a number of the machine's -/
def I64 (x : Int) : Prop := (Lit.int .i64 x).wf = true
theorem I64.of {x : Int} (h1 : -9223372036854775808 ≤ x) (h2 : x ≤ 9223372036854775807) : I64 x := by
  unfold I64; simp [Lit.wf, IntKind.min, IntKind.max, IntKind.signed, IntKind.bits]; omega
theorem I64.nat {k : Nat} (h : k ≤ 1000000000) : I64 (k : Int) := I64.of (by omega) (by omega)
theorem I64.bd {x : Int} (h : I64 x) : -9223372036854775808 ≤ x ∧ x ≤ 9223372036854775807 := by
  unfold I64 at h; simp [Lit.wf, IntKind.min, IntKind.max, IntKind.signed, IntKind.bits] at h; omega
/-- how an element of a plain type is spelled, and reads -/
structure Elm (P : Program) (e : TypeId) (β : Type) where
  val : β → Value
  rd : β → DataW Unit
  z : β
  reads : ∀ v, plainElem (H := Unit) P e (val v) = some (rd v, [])
  inv : ∀ u y, plainElem (H := Unit) P e u = some y → ∃ v, u = val v
  inj : ∀ v v', rd v = rd v' → v = v'
  zero : ∀ w, (zeroValue e).run P w = .ok (val z) w
theorem plainElem_bool_inv {P : Program} {e : TypeId} (he : P.underlying e = some .bool) (u : Value) (y : DataW Unit × List MemPlace) (h : plainElem (H := Unit) P e u = some y) : ∃ v, u = .bool v := by
  unfold plainElem at h
  rw [he] at h
  cases u <;> simp at h
  exact ⟨_, rfl⟩
/-- elements that are bools, integers -/
def elmB (P : Program) (e : TypeId) (he : P.underlying e = some .bool) (hz : ∀ w, (zeroValue e).run P w = .ok (.bool false) w) : Elm P e Bool :=
  ⟨.bool, fun x => .lit (.bool x), false, fun v => plainElem_bool he v, plainElem_bool_inv he, fun v v' h => by injection h with h; injection h, hz⟩
section
variable {P : Program} {k e : TypeId} {β : Type}
/-- a map's entries, as a function -/
def Fun (E : Elm P e β) (D : DataW Unit) (f : Int → Option β) : Prop :=
  (∀ x, I64 x → Maps.has D (.int .i64 x) = (f x).isSome) ∧ (∀ x v, f x = some v → I64 x ∧ ∀ zd, D.atKey (.int .i64 x) zd = E.rd v)
/-- block b is a map of at most n entries that reads as f -/
def MapI (P : Program) (k : TypeId) (E : Elm P e β) (b n : Nat) (f : Int → Option β) (w : World) : Prop :=
  ∃ D : DataW Unit, w.ownsMap P k (plainElem P e) b n D ∧ Fun E D f
def upF (f : Int → Option β) (x : Int) (v : β) : Int → Option β := fun y => if y = x then some v else f y
theorem key_of (hk : P.underlying k = some (.int .i64)) {x : Int} (hx : I64 x) : keyOf P k (.int .i64 x) = some (.int .i64 x) := keyOf_int_mk hk hx
theorem isKey (hk : P.underlying k = some (.int .i64)) {x : Int} (hx : I64 x) : WideAt.IsKeyLit (.int .i64 x) := (int_keyed hk).key (key_of hk hx)
theorem MapI.lt {E : Elm P e β} {b n : Nat} {f : Int → Option β} {w : World} (h : MapI P k E b n f w) : b < w.heap.size := h.choose_spec.1.lt
theorem MapI.loc {E : Elm P e β} {b n : Nat} {f : Int → Option β} {w w' : World} (h : MapI P k E b n f w) (hb : w'.heap[b]? = w.heap[b]?) : MapI P k E b n f w' := by
  obtain ⟨D, ⟨es, clock, h1, F, h2, h3⟩, hf⟩ := h
  exact ⟨D, ⟨es, clock, hb.trans h1, F, h2, h3⟩, hf⟩
theorem MapI.ext {E : Elm P e β} {b n : Nat} {f : Int → Option β} {w w' : World} (h : MapI P k E b n f w) (he : Ext w w') : MapI P k E b n f w' := h.loc (he.block b h.lt)
theorem MapI.mono {E : Elm P e β} {b n m : Nat} {f : Int → Option β} {w : World} (h : MapI P k E b n f w) (hn : n ≤ m) : MapI P k E b m f w := by
  obtain ⟨D, h1, h2⟩ := h; exact ⟨D, h1.mono hn, h2⟩
theorem MapI.made (E : Elm P e β) (w : World) : MapI P k E w.heap.size 0 (fun _ => none) (w.alloc (.map #[] 0)) :=
  ⟨.map [], World.ownsMap_made w P k _, fun x _ => rfl, fun x v h => by cases h⟩
/-- a map, a piece of its own -/
def Pc.map (P : Program) (k : TypeId) (E : Elm P e β) (b n : Nat) (f : Int → Option β) : Pc :=
  ⟨fun i => i = b, fun w => MapI P k E b n f w, fun _ h i hi => by subst hi; exact h.lt, fun _ _ h hi => h.loc (hi b rfl)⟩
variable {E : Elm P e β} {b n : Nat} {f : Int → Option β} {w : World}
theorem MapI.update {t : TypeId} (h : MapI P k E b n f w) (hk : P.underlying k = some (.int .i64)) (ht : P.underlying t = some (.map k e)) (hn : n < 140737488355328) {x : Int} (hx : I64 x) (v : β) :
    ∃ w', (Instr.mapUpdate t (.map (some b)) (.int .i64 x) (E.val v)).run P w = .ok () w' ∧ MapI P k E b (n + 1) (upF f x v) w' ∧ w.grownBy w' (some b) := by
  obtain ⟨D, h1, h2, h3⟩ := h
  obtain ⟨w', hr, ho, hg⟩ := h1.update (int_keyed hk) ht (by unfold maxLen; omega) (key_of hk hx) (E.reads v)
  have hm := h1.isMap
  refine ⟨w', hr, ⟨_, ho, fun y hy => ?_, fun y u hu => ?_⟩, hg⟩
  · unfold upF
    by_cases e : y = x
    · subst e; rw [has_put_same hm (isKey hk hx)]; simp
    · rw [has_put_other (fun h => e (by injection h)), if_neg e]; exact h2 y hy
  · unfold upF at hu
    by_cases e : y = x
    · subst e; simp at hu; subst hu; exact ⟨hx, fun zd => atKey_put_same hm (isKey hk hx) _ _⟩
    · rw [if_neg e] at hu
      obtain ⟨g1, g2⟩ := h3 y u hu
      exact ⟨g1, fun zd => by rw [atKey_put_other (fun h => e (by injection h))]; exact g2 zd⟩
theorem Fun.at {D : DataW Unit} (h : Fun E D f) {x : Int} (hx : I64 x) : D.atKey (.int .i64 x) (E.rd E.z) = E.rd ((f x).getD E.z) := by
  cases hf : f x with
  | none => exact atKey_of_not_has (by rw [h.1 x hx, hf]; rfl) _
  | some v => exact (h.2 x v hf).2 _
theorem MapI.lookup {t : TypeId} (h : MapI P k E b n f w) (hk : P.underlying k = some (.int .i64)) (ht : P.underlying t = some (.map k e)) {x : Int} (hx : I64 x) :
    (Instr.lookup t (.map (some b)) (.int .i64 x) false).run P w = .ok (E.val ((f x).getD E.z)) w := by
  obtain ⟨D, h1, hf⟩ := h
  obtain ⟨v, ps, hr, hv⟩ := h1.lookup (int_keyed hk) ht (E.zero w) (E.reads E.z) (key_of hk hx)
  obtain ⟨u, rfl⟩ := E.inv _ _ hv
  have := E.reads u
  rw [hv] at this
  injection this with this
  injection this with h4
  rw [hf.at hx] at h4
  rw [hr, E.inj _ _ h4]
theorem MapI.lookup_ok {t : TypeId} (h : MapI P k E b n f w) (hk : P.underlying k = some (.int .i64)) (ht : P.underlying t = some (.map k e)) {x : Int} (hx : I64 x) :
    (Instr.lookup t (.map (some b)) (.int .i64 x) true).run P w = .ok (.tuple #[E.val ((f x).getD E.z), .bool (f x).isSome]) w := by
  obtain ⟨D, h1, hf⟩ := h
  obtain ⟨v, ps, hr, hv⟩ := h1.look_ok (int_keyed hk) ht (E.zero w) (E.reads E.z) (key_of hk hx)
  obtain ⟨u, rfl⟩ := E.inv _ _ hv
  have := E.reads u
  rw [hv] at this
  injection this with this
  injection this with h4
  rw [hf.at hx] at h4
  rw [hr, E.inj _ _ h4, hf.1 x hx]
/-- an iterator over a map whose entries are known: what is still to come -/
def Rng (P : Program) (k : TypeId) (E : Elm P e β) (es : Array MapEntry) (clock since : Nat) (seen : Array Nat) (c0 n : Nat) (f : Int → Option β) (left : Int → Bool) (cnt : Nat) : Prop :=
  ∃ D : DataW Unit, ∃ lf : Lit → Bool, Fun E D f ∧ (∀ x, I64 x → lf (.int .i64 x) = left x) ∧ (∀ x, left x = true → (f x).isSome = true) ∧ Fit P k (plainElem (H := Unit) P e) es clock ∧ es.size ≤ n ∧ D = .map ((es.toList.map (rg P k (plainElem P e))).foldr DataW.insert []) ∧
    (∀ x ∈ es.toList, x.born < since) ∧ (leftOf es seen).size = cnt ∧ (∀ x ∈ es.toList, lf (rg P k (plainElem (H := Unit) P e) x).1 = !seen.contains x.born) ∧ (∀ kl, lf kl = true → ∃ x ∈ es.toList, (rg P k (plainElem (H := Unit) P e) x).1 = kl) ∧ since ≤ c0 ∧ since ≤ clock
def Pc.iter (r b since : Nat) (seen : Array Nat) (c0 : Nat) : Pc :=
  ⟨fun i => i = r, fun w => w.heap[r]? = some (.mapIter (some b) since seen c0), fun w h i hi => by subst hi; exact (Array.getElem?_eq_some_iff.1 h).1, fun _ _ h hi => (hi r rfl).trans h⟩
/-- the entries of a map, once and for all -/
theorem MapI.raw (h : MapI P k E b n f w) : ∃ es clock, w.heap[b]? = some (.map es clock) ∧ Fit P k (plainElem (H := Unit) P e) es clock ∧ es.size ≤ n ∧ Fun E (.map ((es.toList.map (rg P k (plainElem P e))).foldr DataW.insert [])) f := by
  obtain ⟨D, ⟨es, clock, h1, F, h2, rfl⟩, hf⟩ := h
  exact ⟨es, clock, h1, F, h2, hf⟩
theorem MapI.of_raw {es : Array MapEntry} {clock : Nat} (h : w.heap[b]? = some (.map es clock)) (F : Fit P k (plainElem (H := Unit) P e) es clock) (hn : es.size ≤ n) (hf : Fun E (.map ((es.toList.map (rg P k (plainElem P e))).foldr DataW.insert [])) f) : MapI P k E b n f w :=
  ⟨_, ⟨es, clock, h, F, hn, rfl⟩, hf⟩
theorem has_int {D : DataW Unit} (hk : P.underlying k = some (.int .i64)) (h : w.ownsMap P k (plainElem P e) b n D) {kl : Lit} (hh : Maps.has D kl = true) : ∃ x, kl = .int .i64 x ∧ I64 x := by
  obtain ⟨es, clock, _, F, _, rfl⟩ := h
  obtain ⟨p, hp, hpk⟩ := List.any_eq_true.1 hh
  obtain ⟨x, hx, rfl⟩ := List.mem_map.1 (mem_sorted.1 hp)
  obtain ⟨y, hy⟩ := F.reads x hx
  have h1 := rd_key hy
  obtain ⟨z, _, h3, h4⟩ := keyOf_int_inv hk h1
  have h5 := WideAt.sameKey_eq hpk
  rw [rg_of hy] at h5
  exact ⟨z, by rw [← h5]; exact h3, h4⟩
variable {w0 : World} {Γ : List Pc} {ops : Array Oper} {rest : List Oper} {o : Oper} {a : Act} {Q : Exit → Act → World → Prop}
/-- an entry that came -/
structure Ent (β : Type) where
  x : Int
  v : β
/-- 'range m' -/
theorem wpList_range_sep (hg : o.guard = none) (m : Operand) (t : TypeId) (hop : o.op = Op.range t m) (hk : P.underlying k = some (.int .i64)) (ht : P.underlying t = some (.map k e))
    (hm : a.eval m = .map (some b)) {es : Array MapEntry} {clock : Nat} (hb : w.heap[b]? = some (.map es clock)) (F : Fit P k (plainElem (H := Unit) P e) es clock) (hn : es.size ≤ n) (hf : Fun E (.map ((es.toList.map (rg P k (plainElem P e))).foldr DataW.insert [])) f)
    (S : Sep w0 w Γ) (r : Nat) (hr : w.heap.size = r)
    (hK : ∀ w' since seen c0 cnt, Sep w0 w' (.iter r b since seen c0 :: Γ) → Rng P k E es clock since seen c0 n f (fun x => (f x).isSome) cnt → w'.heap.size = r + 1 → Ext w w' → wpList P ops Q rest (a.put o.dst (.pointer (some ⟨r, 0, none⟩))) w') :
    wpList P ops Q (o :: rest) a w := by
  subst hr
  have hown : w.ownsMap P k (plainElem (H := Unit) P e) b n (.map ((es.toList.map (rg P k (plainElem P e))).foldr DataW.insert [])) := ⟨es, clock, hb, F, hn, rfl⟩
  refine wpList_range_own w hg m t hop k e (int_keyed hk) ht (plainElem (H := Unit) P e) b n _ hm hown ?_
  intro w' hr hgr hsz
  have hext : Ext w w' := ⟨hgr.os, hgr.tape, hgr.output, hgr.size, fun i hi => hgr.block i hi (by simp)⟩
  have hb' : w'.heap[b]? = some (.map es clock) := (hext.block b (Array.getElem?_eq_some_iff.1 hb).1).trans hb
  obtain ⟨es', clock', since, seen, c0, e1, F', e2, e3, e4, e5, e6, e7, e8, e9, e10⟩ := hr
  rw [hb'] at e1
  injection e1 with e1
  injection e1 with ea eb
  subst ea eb
  refine hK w' since seen c0 _ (S.comp (Δ := [.iter w.heap.size b since seen c0]) ⟨hext, fun p hp => ?_, fun p hp i hi => ?_, List.pairwise_singleton _ _⟩) ⟨_, _, hf, fun x hx => ?_, fun x hx => hx, F', e2, rfl, e5, e6, e7, e8, e9, e10⟩ hsz hext
  · rw [List.mem_singleton] at hp; subst hp; exact e4
  · rw [List.mem_singleton] at hp; subst hp; have : i = w.heap.size := hi; omega
  · exact hf.1 x hx
/-- the step -/
theorem wpList_next_sep (hg : o.guard = none) (it : Operand) (hop : o.op = Op.next it false) (hk : P.underlying k = some (.int .i64)) {r since : Nat} {seen : Array Nat} {c0 cnt : Nat} {left : Int → Bool} {es : Array MapEntry} {clock : Nat}
    (hit : a.eval it = .pointer (some ⟨r, 0, none⟩)) (hb : w.heap[b]? = some (.map es clock)) (S : Sep w0 w Γ) (j : Nat) (hj : Γ[j]? = some (.iter r b since seen c0)) (R : Rng P k E es clock since seen c0 n f left cnt)
    (hDone : (∀ x, left x = false) → wpList P ops Q rest (a.put o.dst (.tuple #[.bool false])) w)
    (hMore : ∀ (x : Ent β) w' since' seen' c0' cnt', I64 x.x → left x.x = true → f x.x = some x.v → Sep w0 w' (Γ.set j (.iter r b since' seen' c0')) → Rng P k E es clock since' seen' c0' n f (fun z => left z && z != x.x) cnt' → cnt' < cnt →
      w'.heap.size = w.heap.size → w'.heap[b]? = some (.map es clock) → w.grownBy w' (some r) → (Instr.entry (.pointer (some ⟨r, 0, none⟩))).run P w' = .ok (.tuple #[.int .i64 x.x, E.val x.v]) w' → wpList P ops Q rest (a.put o.dst (.tuple #[.bool true, .int .i64 x.x, E.val x.v])) w') :
    wpList P ops Q (o :: rest) a w := by
  obtain ⟨D, lf, hf, hlf, hlt, F, e2, rfl, e5, e6, e7, e8, e9, e10⟩ := R
  have hr : w.heap[r]? = some (.mapIter (some b) since seen c0) := S.all _ (List.mem_of_getElem? hj)
  have hrange : w.ranges P k (plainElem (H := Unit) P e) b r n (.map ((es.toList.map (rg P k (plainElem P e))).foldr DataW.insert [])) lf cnt := ⟨es, clock, since, seen, c0, hb, F, e2, rfl, hr, e5, e6, e7, e8, e9, e10⟩
  have hne : r ≠ b := hrange.ne
  refine wpList_next_ranges w hg it hop k (int_keyed hk) (plainElem (H := Unit) P e) (Value.int .i64) E.val (fun key kl h => by obtain ⟨x, h1, _⟩ := keyOf_int_inv hk h; exact ⟨x, h1⟩) (fun v y h => E.inv v y h) b r n _ lf cnt hit hrange ?_ ?_
  · intro _ hall
    refine hDone fun x => ?_
    by_cases hx : left x = true
    · have h1 := hlt x hx
      obtain ⟨v, hv⟩ := Option.isSome_iff_exists.1 h1
      have := hlf x (hf.2 x v hv).1
      rw [hall] at this
      rw [← this] at hx; cases hx
    · simpa using hx
  · intro x c kl y w' cnt' hkey hl hR hat hrg hlt' hgr hsz hen
    obtain ⟨x', hx1, hx2, hx3⟩ := keyOf_int_inv hk hkey
    injection hx1 with _ hx1
    subst hx1 hx2
    have hxw : I64 x := hx3
    have hlx : left x = true := by rw [← hlf x hxw]; exact hl
    obtain ⟨v, hv⟩ := Option.isSome_iff_exists.1 (hlt x hlx)
    have hc : v = c := by
      refine E.inj _ _ ?_
      have h1 := (hf.2 x v hv).2 (E.rd v)
      have h2 := hat (E.rd v)
      have h3 := E.reads c
      rw [hR] at h3
      injection h3 with h3
      rw [← h1, h2, h3]
    subst hc
    have hb' : w'.heap[b]? = some (.map es clock) := (hgr.block b (Array.getElem?_eq_some_iff.1 hb).1 (fun e => hne (by injection e with e; exact e.symm))).trans hb
    obtain ⟨es', clock', since', seen', c0', g1, F', g2, g3, g4, g5, g6, g7, g8, g9, g10⟩ := hrg
    rw [hb'] at g1
    injection g1 with g1
    injection g1 with ga gb
    subst ga gb
    refine hMore ⟨x, v⟩ w' since' seen' c0' cnt' hxw hlx hv (S.put j hj (.iter r b since' seen' c0') hgr (fun i hi => by injection hi with hi; exact hi.symm) g4 (fun i hi => .inl hi)) ⟨_, _, hf, fun z hz => ?_, fun z hz => ?_, F', g2, rfl, g5, g6, g7, g8, g9, g10⟩ hlt' hsz hb' hgr hen
    · rw [hlf z hz]
      by_cases e : z = x
      · subst e; rw [WideAt.sameKey_self (isKey hk hz)]; simp
      · rw [sameKey_ne (fun h => e (by injection h))]; simp [e]
    · simp only [Bool.and_eq_true] at hz; exact hlt z hz.1
/-- 'm[x] = v' on a piece -/
theorem wpList_update_sep (hg : o.guard = none) (m x v : Operand) (t : TypeId) (hop : o.op = Op.mapUpdate t m x v) (hk : P.underlying k = some (.int .i64)) (ht : P.underlying t = some (.map k e))
    (hm : a.eval m = .map (some b)) (S : Sep w0 w Γ) (j : Nat) (hj : Γ[j]? = some (.map P k E b n f)) (hn : n < 140737488355328) (kx : Int) (u : β) (hx : a.eval x = .int .i64 kx) (hv : a.eval v = E.val u) (hi : I64 kx)
    (hK : ∀ w', Sep w0 w' (Γ.set j (.map P k E b (n + 1) (upF f kx u))) → w.grownBy w' (some b) → wpList P ops Q rest (a.put o.dst undef) w') :
    wpList P ops Q (o :: rest) a w := by
  refine wpList_plain hg fun K' hK' => ?_
  obtain ⟨w', hrun, r1, r2⟩ := MapI.update (S.all _ (List.mem_of_getElem? hj)) hk ht hn hi u
  unfold Oper.wp
  simp [execOp, hop, hm, hx, hv, hrun, Result.andThen]
  exact hK' _ _ (hK w' (S.put j hj _ r2 (fun i hi => by injection hi with hi; exact hi.symm) r1 (fun i hi => .inl hi)) r2)
end
theorem rng_left {P : Program} {k e : TypeId} {β : Type} {E : Elm P e β} {w : World} {b n : Nat} {f : Int → Option β} {es : Array MapEntry} {clock r since : Nat} {seen : Array Nat} {c0 cnt : Nat} {left : Int → Bool} (hb : w.heap[b]? = some (.map es clock)) (hr : w.heap[r]? = some (.mapIter (some b) since seen c0)) (R : Rng P k E es clock since seen c0 n f left cnt) : w.rangeLeft b r = cnt := by
  obtain ⟨_, _, _, _, _, _, _, _, _, h, _⟩ := R
  unfold World.rangeLeft; rw [hb, hr]; exact h
theorem rng_le {P : Program} {k e : TypeId} {β : Type} {E : Elm P e β} {n : Nat} {f : Int → Option β} {es : Array MapEntry} {clock since : Nat} {seen : Array Nat} {c0 cnt : Nat} {left : Int → Bool} (R : Rng P k E es clock since seen c0 n f left cnt) : cnt ≤ n := by
  obtain ⟨_, _, _, _, _, _, h2, _, _, h, _⟩ := R
  refine Nat.le_trans ?_ h2
  rw [← h]
  unfold leftOf
  exact Array.size_filter_le
theorem Sep.iter {w0 w : World} {Γ : List Pc} (S : Sep w0 w Γ) (j : Nat) {r b since c0 : Nat} {seen : Array Nat} (hj : Γ[j]? = some (.iter r b since seen c0)) : w.heap[r]? = some (.mapIter (some b) since seen c0) := S.all _ (List.mem_of_getElem? hj)
theorem Sep.mkmap {P : Program} {k e : TypeId} {β : Type} (E : Elm P e β) {w0 w : World} {Γ : List Pc} (S : Sep w0 w Γ) : Sep w0 (w.alloc (.map #[] 0)) (.map P k E w.heap.size 0 (fun _ => none) :: Γ) :=
  S.comp (Δ := [.map P k E w.heap.size 0 (fun _ => none)]) ⟨Ext.alloc (Below.refl _ _) _, fun p hp => by rw [List.mem_singleton] at hp; subst hp; exact MapI.made E w, fun p hp i hi => by rw [List.mem_singleton] at hp; subst hp; have : i = w.heap.size := hi; omega, List.pairwise_singleton _ _⟩
theorem Sep.map {P : Program} {k e : TypeId} {β : Type} {E : Elm P e β} {w0 w : World} {Γ : List Pc} (S : Sep w0 w Γ) (j : Nat) {b n : Nat} {f : Int → Option β} (hj : Γ[j]? = some (.map P k E b n f)) : MapI P k E b n f w := S.all _ (List.mem_of_getElem? hj)
end Go.Proofs.Ytcjkechemjdboaa
