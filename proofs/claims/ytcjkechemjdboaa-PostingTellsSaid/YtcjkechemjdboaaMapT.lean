/- Maps with texts as keys, whatever the elements; rows that lie apart, one of which is appended to. -/
import Derived.Test.YtcjkechemjdboaaSep
import Derived.Maps.OwnSet
namespace Go.Proofs.Ytcjkechemjdboaa
open Go Go.RowKit Go.Maps Go.WideElems
/-- an element, held as it is -/
def heldR (v : Value) : Option (DataW Value × List MemPlace) := some (.held v, [])
def keyT (s : ByteArray) : Lit := .string s.data.toList
theorem keyT_inj {s t : ByteArray} (h : keyT s = keyT t) : s = t := by
  unfold keyT at h; injection h with h
  exact ByteArray.ext (Array.toList_inj.1 h)
/-- block b is a map of at most n entries that reads as f -/
def MapT (P : Program) (k : TypeId) (b n : Nat) (f : ByteArray → Option Value) (w : World) : Prop :=
  ∃ D : DataW Value, w.ownsMap P k heldR b n D ∧ (∀ s, s.size ≤ 1000000 → Maps.has D (keyT s) = (f s).isSome) ∧ ∀ s v, f s = some v → s.size ≤ 1000000 ∧ ∀ zd, D.atKey (keyT s) zd = .held v
def upT (f : ByteArray → Option Value) (s : ByteArray) (v : Value) : ByteArray → Option Value := fun t => if t = s then some v else f t
section
variable {P : Program} {k e : TypeId} {b n : Nat} {f : ByteArray → Option Value} {w w' : World}
theorem MapT.lt (h : MapT P k b n f w) : b < w.heap.size := by obtain ⟨D, h1, _⟩ := h; exact h1.lt
theorem MapT.loc (h : MapT P k b n f w) (hb : w'.heap[b]? = w.heap[b]?) : MapT P k b n f w' := by
  obtain ⟨D, ⟨es, clock, h1, F, h2, h3⟩, hf⟩ := h
  exact ⟨D, ⟨es, clock, hb.trans h1, F, h2, h3⟩, hf⟩
theorem MapT.made (w : World) : MapT P k w.heap.size 0 (fun _ => none) (w.alloc (.map #[] 0)) :=
  ⟨.map [], World.ownsMap_made w P k _, fun x _ => rfl, fun x v h => by cases h⟩
def Pc.mapT (P : Program) (k : TypeId) (b n : Nat) (f : ByteArray → Option Value) : Pc :=
  ⟨fun i => i = b, fun w => MapT P k b n f w, fun _ h i hi => by subst hi; exact h.lt, fun _ _ h hi => h.loc (hi b rfl)⟩
theorem keyT_of (hk : P.underlying k = some .string) {s : ByteArray} (hs : s.size ≤ 1000000) : keyOf P k (.string s) = some (keyT s) := WideMaps.keyOf_string_mk hk (by unfold maxLen; omega)
theorem isKeyT (hk : P.underlying k = some .string) {s : ByteArray} (hs : s.size ≤ 1000000) : WideAt.IsKeyLit (keyT s) := (string_keyed hk).key (keyT_of hk hs)
theorem MapT.update {t : TypeId} (h : MapT P k b n f w) (hk : P.underlying k = some .string) (ht : P.underlying t = some (.map k e)) (hn : n < 140737488355328) {s : ByteArray} (hs : s.size ≤ 1000000) (v : Value) :
    ∃ w', (Instr.mapUpdate t (.map (some b)) (.string s) v).run P w = .ok () w' ∧ MapT P k b (n + 1) (upT f s v) w' ∧ w.grownBy w' (some b) := by
  obtain ⟨D, h1, h2, h3⟩ := h
  obtain ⟨w', hr, ho, hg⟩ := h1.update (string_keyed hk) ht (by unfold maxLen; omega) (keyT_of hk hs) (show heldR v = some (.held v, []) from rfl)
  have hm := h1.isMap
  refine ⟨w', hr, ⟨_, ho, fun y hy => ?_, fun y u hu => ?_⟩, hg⟩
  · unfold upT
    by_cases e : y = s
    · subst e; rw [has_put_same hm (isKeyT hk hs)]; simp
    · rw [has_put_other (fun h => e (keyT_inj h)), if_neg e]; exact h2 y hy
  · unfold upT at hu
    by_cases e : y = s
    · subst e; simp at hu; subst hu; exact ⟨hs, fun zd => atKey_put_same hm (isKeyT hk hs) _ _⟩
    · rw [if_neg e] at hu
      obtain ⟨g1, g2⟩ := h3 y u hu
      exact ⟨g1, fun zd => by rw [atKey_put_other (fun h => e (keyT_inj h))]; exact g2 zd⟩
theorem MapT.lookup {t : TypeId} {z : Value} (h : MapT P k b n f w) (hk : P.underlying k = some .string) (ht : P.underlying t = some (.map k e)) (hz : (zeroValue e).run P w = .ok z w) {s : ByteArray} (hs : s.size ≤ 1000000) :
    (Instr.lookup t (.map (some b)) (.string s) false).run P w = .ok ((f s).getD z) w := by
  obtain ⟨D, h1, h2, h3⟩ := h
  obtain ⟨v, ps, hr, hv⟩ := h1.lookup (string_keyed hk) ht hz (show heldR z = some (.held z, []) from rfl) (keyT_of hk hs)
  have hat : D.atKey (keyT s) (.held z) = .held ((f s).getD z) := by
    cases hf : f s with
    | none => exact atKey_of_not_has (by rw [h2 s hs, hf]; rfl) _
    | some u => exact (h3 s u hf).2 _
  unfold heldR at hv
  injection hv with hv
  injection hv with hv
  rw [hat] at hv
  injection hv with hv
  rw [hr, hv]
variable {w0 : World} {Γ : List Pc} {ops : Array Oper} {rest : List Oper} {o : Oper} {a : Act} {Q : Exit → Act → World → Prop}
theorem Sep.mkmapT (S : Sep w0 w Γ) (P : Program) (k : TypeId) : Sep w0 (w.alloc (.map #[] 0)) (.mapT P k w.heap.size 0 (fun _ => none) :: Γ) :=
  S.comp (Δ := [.mapT P k w.heap.size 0 (fun _ => none)]) ⟨Ext.alloc (Below.refl _ _) _, fun p hp => by rw [List.mem_singleton] at hp; subst hp; exact MapT.made w, fun p hp i hi => by rw [List.mem_singleton] at hp; subst hp; have : i = w.heap.size := hi; omega, List.pairwise_singleton _ _⟩
theorem Sep.mapT (S : Sep w0 w Γ) (j : Nat) (hj : Γ[j]? = some (.mapT P k b n f)) : MapT P k b n f w := S.all _ (List.mem_of_getElem? hj)
theorem wpList_updateT_sep (hg : o.guard = none) (m x v : Operand) (t : TypeId) (hop : o.op = Op.mapUpdate t m x v) (hk : P.underlying k = some .string) (ht : P.underlying t = some (.map k e))
    (hm : a.eval m = .map (some b)) (S : Sep w0 w Γ) (j : Nat) (hj : Γ[j]? = some (.mapT P k b n f)) (hn : n < 140737488355328) (s : ByteArray) (u : Value) (hx : a.eval x = .string s) (hv : a.eval v = u) (hi : s.size ≤ 1000000)
    (hK : ∀ w', Sep w0 w' (Γ.set j (.mapT P k b (n + 1) (upT f s u))) → w.grownBy w' (some b) → wpList P ops Q rest (a.put o.dst undef) w') :
    wpList P ops Q (o :: rest) a w := by
  refine wpList_plain hg fun K' hK' => ?_
  obtain ⟨w', hrun, r1, r2⟩ := MapT.update (S.mapT j hj) hk ht hn hi u
  unfold Oper.wp
  simp [execOp, hop, hm, hx, hv, hrun, Result.andThen]
  exact hK' _ _ (hK w' (S.put j hj _ r2 (fun i hi => by injection hi with hi; exact hi.symm) r1 (fun i hi => .inl hi)) r2)
end
/-- rows that lie apart from one another -/
def apartR (r s : Hd × List Value) : Prop := ∀ k, blkOf r.1.p = some k → blkOf s.1.p ≠ some k
def Pc.rowsD (e : TypeId) (size : Nat) (rows : List (Hd × List Value)) : Pc :=
  ⟨fun k => ∃ r ∈ rows, blkOf r.1.p = some k, fun w => (∀ r ∈ rows, w.ownsRow 0 e size (.slice r.1.p r.1.n r.1.c) r.1.n r.2) ∧ rows.Pairwise apartR, fun _ h k ⟨r, hr, hk⟩ => (own_lt (h.1 r hr) hk).2, fun _ _ h hk => ⟨fun r hr => own_loc (h.1 r hr) fun k hb => hk k ⟨r, hr, hb⟩, h.2⟩⟩
section
variable {P : Program} {w0 w : World} {Γ : List Pc} {e : TypeId} {size : Nat} {rows : List (Hd × List Value)}
theorem Sep.rowsD0 (S : Sep w0 w Γ) (e : TypeId) (size : Nat) : Sep w0 w (.rowsD e size [] :: Γ) :=
  ⟨S.ext, fun p hp => by
    rcases List.mem_cons.1 hp with rfl | h
    · exact ⟨fun r hr => (nomatch hr), List.Pairwise.nil⟩
    · exact S.all p h, fun p hp k hk => by
    rcases List.mem_cons.1 hp with rfl | h
    · obtain ⟨r, hr, _⟩ := hk; cases hr
    · exact S.new p h k hk, List.pairwise_cons.2 ⟨(fun q _ k ⟨r, hr, _⟩ => nomatch hr), S.apart⟩⟩
theorem Sep.rowsAt (S : Sep w0 w Γ) (j : Nat) (hj : Γ[j]? = some (.rowsD e size rows)) : (∀ r ∈ rows, w.ownsRow 0 e size (.slice r.1.p r.1.n r.1.c) r.1.n r.2) ∧ rows.Pairwise apartR := S.all _ (List.mem_of_getElem? hj)
/-- a nil row more -/
theorem Sep.rowsNil (S : Sep w0 w Γ) (j : Nat) (hj : Γ[j]? = some (.rowsD e size rows)) : Sep w0 w (Γ.set j (.rowsD e size (rows ++ [(⟨none, 0, 0⟩, [])]))) := by
  have h := S.rowsAt j hj
  refine S.put j hj _ (World.grownBy.refl w none) (fun k hk => by cases hk) ⟨fun r hr => ?_, ?_⟩ fun k hk => ?_
  · rcases List.mem_append.1 hr with hr | hr
    · exact h.1 r hr
    · rw [List.mem_singleton] at hr; subst hr; exact World.ownsRow_nil _ _ _ _
  · rw [List.pairwise_append]
    refine ⟨h.2, List.pairwise_singleton _ _, fun r _ s hs k _ hk2 => ?_⟩
    rw [List.mem_singleton] at hs; subst hs; cases hk2
  · obtain ⟨r, hr, hk⟩ := hk
    rcases List.mem_append.1 hr with hr | hr
    · exact .inl ⟨r, hr, hk⟩
    · rw [List.mem_singleton] at hr; subst hr; cases hk
/-- **append onto one of the rows** -/
theorem wpList_append_rows {ops : Array Oper} {rest : List Oper} {o : Oper} {a : Act} {Q : Exit → Act → World → Prop} (hgd : o.guard = none) (s x : Operand) (t : TypeId)
    (ho : o.op = .call { callee := .builtin .append, args := #[s, x], argTypes := #[t, t] })
    (i : TypeInfo) (z : Value) (bytes : Nat) (ht : P.underlying t = some (.slice e)) (hi : P.info? e = some i) (hz : i.zero = some z)
    (hsize : i.size = size) (hby : i.bytes = bytes) (hzs : z.cells.size = size) (hsz : 0 < size)
    (S : Sep w0 w Γ) (j : Nat) (hj : Γ[j]? = some (.rowsD e size rows)) (r : Nat) (q : Option Addr) (n cq : Nat) (xs : List Value) (hr : rows[r]? = some (⟨q, n, cq⟩, xs)) (hs : a.eval s = .slice q n cq)
    (A : Option Addr) (m c : Nat) (news : List Value) (hx : a.eval x = .slice A m c) (hrd : Rd w size A m news) (h1 : ∀ u ∈ news, u.oneCell' = true)
    (hbytes : (n + m) * bytes ≤ 140737488355328) (h63 : n + m ≤ 140737488355328)
    (h : ∀ q' c' w', Sep w0 w' (Γ.set j (.rowsD e size (rows.set r (⟨q', n + m, c'⟩, xs ++ news)))) → w.heap.size ≤ w'.heap.size → wpList P ops Q rest (a.put o.dst (.slice q' (n + m) c')) w') : wpList P ops Q (o :: rest) a w := by
  have hrows := S.rowsAt j hj
  have hmem := List.mem_of_getElem? hr
  have hown : w.ownsRow w0.heap.size e size (.slice q n cq) n xs := own_rebase (hrows.1 _ hmem) fun k hk => S.new _ (List.mem_of_getElem? hj) k ⟨_, hmem, hk⟩
  refine wpList_append_rd hgd s x t ho w0.heap.size e i z size bytes ht hi hz hsize hby hzs hsz q n cq xs hs hown A m c news hx hrd h1 hbytes h63 S.ext.size ?_
  intro q' c' w' ho' hg hat _
  have hr1 : r < rows.length := (List.getElem?_eq_some_iff.1 hr).1
  have hnew : ∀ k, blkOf q' = some k → blkOf q = some k ∨ k = w.heap.size := fun k hk => by
    rcases hat with h | h
    · exact .inl (h.symm.trans hk)
    · have : some w.heap.size = some k := h.symm.trans hk
      injection this with this
      exact .inr this.symm
  have hset : ∀ y ∈ rows.set r (⟨q', n + m, c'⟩, xs ++ news), y = (⟨q', n + m, c'⟩, xs ++ news) ∨ ∃ i, i ≠ r ∧ rows[i]? = some y := by
    intro y hy
    obtain ⟨i, hi, rfl⟩ := List.mem_iff_getElem.1 hy
    rw [List.length_set] at hi
    rw [List.getElem_set]
    by_cases e : r = i
    · left; rw [if_pos e]
    · right; rw [if_neg e]; exact ⟨i, fun h => e h.symm, List.getElem?_eq_getElem hi⟩
  have hap : ∀ (i : Nat) y, i ≠ r → rows[i]? = some y → ∀ k, blkOf y.1.p = some k → blkOf q ≠ some k := by
    intro i y hne hy k hk hq
    obtain ⟨hi1, rfl⟩ := List.getElem?_eq_some_iff.1 hy
    obtain ⟨hr2, hre⟩ := List.getElem?_eq_some_iff.1 hr
    rcases Nat.lt_or_gt_of_ne hne with h | h
    · have := List.pairwise_iff_getElem.1 hrows.2 i r hi1 hr2 h k hk
      rw [hre] at this; exact this hq
    · have := List.pairwise_iff_getElem.1 hrows.2 r i hr2 hi1 h k (by rw [hre]; exact hq)
      exact this hk
  refine h q' c' w' (S.put j hj _ hg (fun k hk => ⟨_, hmem, hk⟩) ⟨fun y hy => ?_, ?_⟩ fun k hk => ?_) hg.size
  · rcases hset y hy with rfl | ⟨i, hne, hi⟩
    · exact own_base ho' (Nat.zero_le _)
    · have hy1 := hrows.1 y (List.mem_of_getElem? hi)
      refine own_loc hy1 fun k hk => hg.block k (own_lt hy1 hk).2 fun e => hap i y hne hi k hk e.symm
  · rw [List.pairwise_iff_getElem]
    intro a b ha hb hab k hka hkb
    rw [List.length_set] at ha hb
    rw [List.getElem_set] at hka hkb
    have key : ∀ i (hi : i < rows.length), i ≠ r → blkOf q' = some k → blkOf (rows[i]).1.p = some k → False := by
      intro i hi hne h1 h2
      rcases hnew k h1 with h | h
      · exact hap i _ hne (List.getElem?_eq_getElem hi) k h2 h
      · have := (own_lt (hrows.1 _ (List.getElem_mem hi)) h2).2; omega
    by_cases e1 : r = a
    · rw [if_pos e1] at hka
      rw [if_neg (by omega)] at hkb
      exact key b hb (by omega) hka hkb
    · rw [if_neg e1] at hka
      by_cases e2 : r = b
      · rw [if_pos e2] at hkb
        exact key a ha (fun h => e1 h.symm) hkb hka
      · rw [if_neg e2] at hkb
        exact List.pairwise_iff_getElem.1 hrows.2 a b ha hb hab k hka hkb
  · obtain ⟨y, hy, hk⟩ := hk
    rcases hset y hy with rfl | ⟨i, _, hi⟩
    · rcases hnew k hk with h | h
      · exact .inl ⟨_, hmem, h⟩
      · exact .inr (by omega)
    · exact .inl ⟨y, List.mem_of_getElem? hi, hk⟩
end
end Go.Proofs.Ytcjkechemjdboaa
