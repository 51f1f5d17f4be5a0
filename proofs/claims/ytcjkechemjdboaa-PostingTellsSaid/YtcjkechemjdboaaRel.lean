/- A region that draws its order: operations that only make memory, in whatever order, each told by a relation on its value; then a forced tail. -/
import Derived.Test.YtcjkechemjdboaaBase
import Derived.StillTail
namespace Go.Proofs.Ytcjkechemjdboaa
open Go Go.RowKit
/-- what an operation waits for -/
def depsOf (ops : Array Oper) (i : Nat) : List Nat :=
  match ops[i]? with
  | some o => (o.after.toList.filter (Region.binds .any)).map (·.on)
  | none => []
/-- the head's operations wait for earlier ones alone and bear no guard; the tail comes one by one, behind all of the head -/
def headB (ops : Array Oper) (n : Nat) : Bool :=
  decide (n ≤ ops.size) && (List.range n).all (fun i => (depsOf ops i).all (fun j => decide (j < i)) && (match ops[i]? with | some o => o.guard.isNone | none => false)) &&
  (decide (n = ops.size) || (Region.sinkB .any ops n && Region.chainB .any ops n && decide (n < ops.size))) &&
  Region.seqB .any ops (ops.size - n) n (Array.ofFn (n := ops.size) fun i => decide (i.val < n))
def upd (vs : Nat → Value) (i : Nat) (v : Value) : Nat → Value := fun j => if j = i then v else vs j
theorem upd_same (vs : Nat → Value) (i : Nat) (v : Value) : upd vs i v i = v := by simp [upd]
theorem upd_other (vs : Nat → Value) {i j : Nat} (v : Value) (h : j ≠ i) : upd vs i v j = vs j := by simp [upd, h]
section
variable {P : Program} {ops : Array Oper} {Q : Exit → Act → World → Prop}
/-- how many of the head are still to come -/
def toCome (listed : Array Bool) (n : Nat) : Nat := ((List.range n).filter fun i => !listed.getD i false).length
theorem toCome_set {listed : Array Bool} {n i : Nat} (hi : i < n) (hs : i < listed.size) (hu : listed.getD i false = false) : toCome (listed.setIfInBounds i true) n + 1 = toCome listed n := by
  unfold toCome
  have key : ∀ m, m ≤ n → ((List.range m).filter fun j => !(listed.setIfInBounds i true).getD j false).length + (if i < m then 1 else 0) = ((List.range m).filter fun j => !listed.getD j false).length := by
    intro m
    induction m with
    | zero => intro _; simp
    | succ m ih =>
      intro hm
      have h := ih (by omega)
      have fl : ∀ p : Nat → Bool, (List.filter p [m]).length = if p m then 1 else 0 := by
        intro p; rw [List.filter_cons]; split <;> rfl
      rw [List.range_succ, List.filter_append, List.filter_append, List.length_append, List.length_append, fl, fl]
      by_cases e : m = i
      · subst e
        have h1 : (listed.setIfInBounds m true).getD m false = true := by simp [hs]
        rw [if_neg (Nat.lt_irrefl _)] at h
        rw [h1, hu, if_pos (Nat.lt_succ_self m)]
        simp only [Bool.not_true, Bool.not_false, if_true]
        simp at h ⊢; omega
      · have h1 : (listed.setIfInBounds i true).getD m false = listed.getD m false := getD_set_ne false (Ne.symm e)
        rw [h1]
        by_cases c : i < m
        · rw [if_pos c] at h; rw [if_pos (by omega : i < m + 1)]; omega
        · rw [if_neg c] at h; rw [if_neg (by omega : ¬ i < m + 1)]; omega
  have := key n (Nat.le_refl _)
  rw [if_pos hi] at this
  exact this
theorem toCome_zero {listed : Array Bool} {n : Nat} (h : toCome listed n = 0) : ∀ i, i < n → listed.getD i false = true := by
  intro i hi
  unfold toCome at h
  have h1 := List.eq_nil_of_length_eq_zero h
  rw [List.filter_eq_nil_iff] at h1
  have := h1 i (List.mem_range.2 hi)
  simpa using this
theorem toCome_pos {listed : Array Bool} {n : Nat} (h : 0 < toCome listed n) : ∃ i, i < n ∧ listed.getD i false = false ∧ ∀ j, j < i → listed.getD j false = true := by
  have hex : ∃ i, i < n ∧ listed.getD i false = false := by
    unfold toCome at h
    obtain ⟨x, hx⟩ := List.exists_mem_of_length_pos h
    rw [List.mem_filter] at hx
    exact ⟨x, List.mem_range.1 hx.1, by simpa using hx.2⟩
  obtain ⟨i, hi, hu⟩ := hex
  induction i using Nat.strongRecOn with
  | _ i ih =>
    by_cases hall : ∀ j, j < i → listed.getD j false = true
    · exact ⟨i, hi, hu, hall⟩
    · obtain ⟨j, hj⟩ := Classical.not_forall.1 hall
      obtain ⟨hj1, hj2⟩ := Classical.not_imp.1 hj
      exact ih j hj1 (by omega) (by simpa using hj2)
theorem mem_deps {i j : Nat} {o : Oper} (ho : ops[i]? = some o) : j ∈ depsOf ops i ↔ ∃ e ∈ o.after, Region.binds .any e = true ∧ e.on = j := by
  unfold depsOf; rw [ho]
  simp only [List.mem_map, List.mem_filter]
  constructor
  · rintro ⟨e, ⟨he, hb⟩, rfl⟩; exact ⟨e, by simpa using he, hb, rfl⟩
  · rintro ⟨e, he, hb, rfl⟩; exact ⟨e, ⟨by simpa using he, hb⟩, rfl⟩
theorem wpAny_rel {n : Nat} (F : (Nat → Value) → Act) (R : Nat → Value → World → Prop) (W1 : World) (hB : headB ops n = true)
    (mono : ∀ i v W W', Ext W W' → R i v W → R i v W')
    (step : ∀ i, i < n → ∀ vs W, Ext W1 W → (∀ j ∈ depsOf ops i, R j (vs j) W) → ∀ o, ops[i]? = some o → o.wp P (F vs) W (fun a' W' => ∃ v, a' = F (upd vs i v) ∧ R i v W' ∧ Ext W W') Q)
    (rest : ∀ vs W, Ext W1 W → (∀ i, i < n → R i (vs i) W) → wpList P ops Q (ops.toList.drop n) (F vs) W) :
    ∀ (f : Nat) (listed : Array Bool) (vs : Nat → Value) (W : World), f = toCome listed n + (ops.size - n) → HeadInv .any ops n listed → Ext W1 W → (∀ i, i < n → listed.getD i false = true → R i (vs i) W) →
      wpAny P .any ops Q f listed (F vs) W := by
  simp only [headB, Bool.and_eq_true, decide_eq_true_eq, Bool.or_eq_true] at hB
  obtain ⟨⟨⟨hn, hhead⟩, htl⟩, hseq⟩ := hB
  intro f
  induction f with
  | zero =>
    intro listed vs W hf inv hW hR
    have h0 : toCome listed n = 0 := by omega
    have hs : ops.size - n = 0 := by omega
    have hall := toCome_zero h0
    refine ⟨?_, ?_⟩
    · apply List.eq_nil_iff_forall_not_mem.2
      intro j hj
      obtain ⟨h1, o, ho, _⟩ := mem_ready.1 hj
      have hj2 : j < ops.size := (Array.getElem?_eq_some_iff.1 ho).1
      have := hall j (by omega)
      rw [getD_both h1] at this; cases this
    · have := rest vs W hW (fun i hi => hR i hi (hall i hi))
      rw [List.drop_of_length_le (by simp; omega)] at this
      exact this
  | succ f ih =>
    intro listed vs W hf inv hW hR
    by_cases h0 : toCome listed n = 0
    · -- the head is done: the tail, one by one
      have hall := toCome_zero h0
      have hl : listed = Array.ofFn (n := ops.size) fun i => decide (i.val < n) := by
        apply Array.ext
        · rw [inv.size]; simp
        · intro i h1 h2
          have h3 : i < ops.size := by rw [inv.size] at h1; exact h1
          simp only [Array.getElem_ofFn]
          by_cases hi : i < n
          · have := hall i hi
            simp [h1] at this
            simp [hi, this]
          · have := inv.tail i (by omega) h3
            simp [h1] at this
            simp [hi, this]
      have hw := wpAny_of_seq (md := .any) (Q' := Q) (ops.toList.drop n) n listed (F vs) W (fun j => by simp [List.getElem?_drop]) (by rw [hl]; simpa using hseq) (rest vs W hW (fun i hi => hR i hi (hall i hi)))
      have e : (ops.toList.drop n).length = f + 1 := by simp; omega
      rw [e] at hw
      exact hw
    · obtain ⟨i0, hi0, hu0, hbelow⟩ := toCome_pos (by omega : 0 < toCome listed n)
      have hi0s : i0 < ops.size := by omega
      have hr0 : i0 ∈ Region.ready .any ops listed := by
        rw [mem_ready]
        refine ⟨getD_in (by rw [inv.size]; exact hi0s) hu0, ops[i0], Array.getElem?_eq_getElem hi0s, fun e he hb => hbelow _ ?_⟩
        have := List.all_eq_true.1 hhead i0 (List.mem_range.2 hi0)
        simp only [Bool.and_eq_true] at this
        have h2 := List.all_eq_true.1 this.1 e.on ((mem_deps (Array.getElem?_eq_getElem hi0s)).2 ⟨e, he, hb, rfl⟩)
        simpa using h2
      refine ⟨fun h => (by rw [h] at hr0; cases hr0), fun i hi => ?_⟩
      obtain ⟨hiu, o, ho, hdep⟩ := mem_ready.1 hi
      have his : i < ops.size := (Array.getElem?_eq_some_iff.1 ho).1
      have hin : i < n := by
        rcases Nat.lt_or_ge i n with h | h
        · exact h
        · exfalso
          rcases htl with h1 | ⟨⟨hs, hc⟩, hnl⟩
          · omega
          · exact tail_waits hs hc hnl inv _ i0 rfl hi0 (getD_in (by rw [inv.size]; exact hi0s) hu0) i h hi
      have hg : o.guard = none := by
        have := List.all_eq_true.1 hhead i (List.mem_range.2 hin)
        simp only [Bool.and_eq_true, ho] at this
        simpa using this.2
      have hst := step i hin vs W hW (fun j hj => by
        obtain ⟨e, he, hb, rfl⟩ := (mem_deps ho).1 hj
        have hlt : e.on < n := by
          have := List.all_eq_true.1 hhead i (List.mem_range.2 hin)
          simp only [Bool.and_eq_true] at this
          have h2 := List.all_eq_true.1 this.1 e.on hj
          have : e.on < i := by simpa using h2
          omega
        exact hR _ hlt (hdep e he hb)) o ho
      unfold wpOp
      simp only [ho]
      rw [if_pos (by simp [Region.wanted, hg])]
      refine .inl (Oper.wp_mono ?_ hst)
      rintro a' W' ⟨v, rfl, hRv, hE⟩
      have hset := toCome_set (listed := listed) hin (by rw [inv.size]; exact his) (getD_both hiu)
      refine ih (listed.setIfInBounds i true) (upd vs i v) W' (by omega) (inv.set hi hin) (Ext.trans hW hE) (fun j hj hl => ?_)
      by_cases e : j = i
      · subst e; rw [upd_same]; exact hRv
      · rw [upd_other vs v e]
        rw [getD_set_ne false (Ne.symm e)] at hl
        exact mono j _ W W' hE (hR j hj hl)
/-- **a region that draws its order: the head's operations by relations, in whatever order; then the tail** -/
theorem wp_region_rel {id : Nat} {a : Act} {w : World} {l : List Oper} (n : Nat) (F : (Nat → Value) → Act) (vs0 : Nat → Value) (R : Nat → Value → World → Prop) (hm : P.follows .mixedOrders = true) (hB : headB l.toArray n = true) (ha : a = F vs0)
    (mono : ∀ i v W W', Ext W W' → R i v W → R i v W')
    (step : ∀ i, i < n → ∀ vs W, Ext w W → (∀ j ∈ depsOf l.toArray i, R j (vs j) W) → ∀ o, l.toArray[i]? = some o → o.wp P (F vs) W (fun a' W' => ∃ v, a' = F (upd vs i v) ∧ R i v W' ∧ Ext W W') Q)
    (rest : ∀ vs W, Ext w W → (∀ i, i < n → R i (vs i) W) → wpList P l.toArray Q (l.drop n) (F vs) W) : (Code.region id l.toArray true).wp P Q a w := by
  subst ha
  refine wp_region_any hm ?_
  have inv0 : HeadInv .any l.toArray n (Array.replicate l.toArray.size false) :=
    ⟨by simp, fun j oj _ hl => (by rw [getD_replicate_false] at hl; cases hl), fun t _ ht => getD_in (by simpa using ht) (getD_replicate_false _ _)⟩
  have hd : Ext w { w with drawn := w.drawn + 1 } := ⟨rfl, rfl, rfl, Nat.le_refl _, fun _ _ => rfl⟩
  have hcount : toCome (Array.replicate l.toArray.size false) n = n := by
    unfold toCome
    rw [List.filter_eq_self.2 (fun i _ => by rw [getD_replicate_false]; rfl)]
    simp
  have hn : n ≤ l.toArray.size := by
    simp only [headB, Bool.and_eq_true, decide_eq_true_eq] at hB
    exact hB.1.1.1
  have := wpAny_rel (P := P) (Q := Q) F R w hB mono step rest l.toArray.size (Array.replicate l.toArray.size false) vs0 { w with drawn := w.drawn + 1 } (by rw [hcount]; omega) inv0 hd (fun i _ hl => by rw [getD_replicate_false] at hl; cases hl)
  exact this
/-- the frame with the head's slots set -/
def putHd (a : Act) (ds : List Nat) (vs : Nat → Value) : Act := { a with tmps := a.tmps.mapIdx fun s x => match ds.idxOf? s with | some k => vs k | none => x }
/-- what one operation of the head is asked: whatever comes of it, by a relation on its value -/
def relUpon (P : Program) (W : World) (Rv : Value → World → Prop) : Result Next → Prop
  | .ok (.value v) W' => Rv v W' ∧ Ext W W'
  | .ok .skip W' => Rv undef W' ∧ Ext W W'
  | .ok (.enter f args) W' => Calls P f args W' (fun e W'' => ∃ v, e = .returned v ∧ Rv v W'' ∧ Ext W W'')
  | _ => False
attribute [go_sem] relUpon
theorem putHd_eval_in {a : Act} {ds : List Nat} {vs : Nat → Value} {k s : Nat} (h : ds.idxOf? s = some k) (hs : s < a.tmps.size) : (putHd a ds vs).eval (.tmp s) = vs k := by
  simp [putHd, Act.eval, h, hs]
theorem putHd_eval_out {a : Act} {ds : List Nat} {vs : Nat → Value} {s : Nat} (h : ds.idxOf? s = none) : (putHd a ds vs).eval (.tmp s) = a.eval (.tmp s) := by
  simp only [putHd, Act.eval]
  by_cases hs : s < a.tmps.size
  · simp [h, hs]
  · simp [hs]
theorem putHd_put {a : Act} {ds : List Nat} {vs : Nat → Value} {i d : Nat} {v : Value} (hd : ds.idxOf? d = some i) (hinj : ∀ s k, ds.idxOf? s = some k → k = i → s = d) : (putHd a ds vs).put (some d) v = putHd a ds (upd vs i v) := by
  unfold putHd Act.put
  simp only
  congr 1
  apply Array.ext_getElem?
  intro s
  rw [Array.getElem?_setIfInBounds]
  by_cases e : d = s
  · subst e
    rw [if_pos rfl]
    by_cases hs : d < a.tmps.size
    · simp [hs, hd, upd_same]
    · simp [hs]
  · rw [if_neg e]
    simp only [Array.getElem?_mapIdx]
    cases hx : a.tmps[s]? with
    | none => rfl
    | some x =>
      simp only [Option.map_some]
      cases hk : ds.idxOf? s with
      | none => rfl
      | some k =>
        have : k ≠ i := fun h => e (hinj s k hk h).symm
        simp [upd_other vs v this]
/-- the slots are in range, no two the same, and are the head's own -/
def dsB (l : List Oper) (n size : Nat) (ds : List Nat) : Bool :=
  decide ((l.take n).map (·.dst) = ds.map some) && decide ds.Nodup && ds.all (fun d => decide (d < size))
theorem wp_region_head {id : Nat} {a : Act} {w : World} {l : List Oper} (n : Nat) (ds : List Nat) (R : Nat → Value → World → Prop) (hm : P.follows .mixedOrders = true) (hB : headB l.toArray n = true) (hds : dsB l n a.tmps.size ds = true)
    (mono : ∀ i v W W', Ext W W' → R i v W → R i v W')
    (step : ∀ i, i < n → ∀ (ev : Operand → Value) (vs : Nat → Value) W, Ext w W → (∀ s k, ds.idxOf? s = some k → ev (.tmp s) = vs k) → (∀ s, ds.idxOf? s = none → ev (.tmp s) = a.eval (.tmp s)) → (∀ v, ev (.const v) = v) → (∀ f, ev (.func f) = a.eval (.func f)) → (∀ g, ev (.global g) = a.eval (.global g)) →
      (∀ j ∈ depsOf l.toArray i, R j (vs j) W) → ∀ o, l.toArray[i]? = some o → relUpon P W (R i) ((execOp ev o).run P W))
    (rest : ∀ vs W, Ext w W → (∀ i, i < n → R i (vs i) W) → wpList P l.toArray Q (l.drop n) (putHd a ds vs) W) : (Code.region id l.toArray true).wp P Q a w := by
  simp only [dsB, Bool.and_eq_true, decide_eq_true_eq, List.all_eq_true] at hds
  obtain ⟨⟨h1, h2⟩, h3⟩ := hds
  have hidx : ∀ s k, ds.idxOf? s = some k → ∃ h : k < ds.length, ds[k] = s := by
    intro s k h
    have := List.idxOf?_eq_some_iff.1 h
    obtain ⟨hk, he, _⟩ := this
    exact ⟨hk, by simpa using he⟩
  refine wp_region_rel n (putHd a ds) (fun k => a.eval (.tmp (ds.getD k 0))) R hm hB ?_ mono ?_ rest
  · unfold putHd
    suffices hts : a.tmps = a.tmps.mapIdx (fun s x => match ds.idxOf? s with | some k => a.eval (.tmp (ds.getD k 0)) | none => x) by
      show a = { a with tmps := _ }
      rw [← hts]
    apply Array.ext_getElem?
    intro s
    rw [Array.getElem?_mapIdx]
    cases hx : a.tmps[s]? with
    | none => rfl
    | some x =>
      simp only [Option.map_some]
      cases hk : ds.idxOf? s with
      | none => rfl
      | some k =>
        obtain ⟨hk2, hk3⟩ := hidx s k hk
        have e : ds.getD k 0 = s := by rw [List.getD_eq_getElem?_getD, List.getElem?_eq_getElem hk2, hk3]; rfl
        simp only [e, Act.eval]
        have := (Array.getElem?_eq_some_iff.1 hx)
        obtain ⟨hs, hs2⟩ := this
        simp [hs, hs2]
  · intro i hi vs W hE hd o ho
    have hs := step i hi (putHd a ds vs).eval vs W hE
      (fun s k h => by
        obtain ⟨hk2, hk3⟩ := hidx s k h
        exact putHd_eval_in h (by have := h3 ds[k] (List.getElem_mem hk2); rw [hk3] at this; simpa using this))
      (fun s h => putHd_eval_out h) (fun _ => rfl) (fun _ => rfl) (fun _ => rfl) hd o ho
    have hdst : o.dst = some (ds.getD i 0) ∧ i < ds.length := by
      have hl : i < l.length := (Array.getElem?_eq_some_iff.1 ho).1
      have hlen : ds.length = (l.take n).length := by have := congrArg List.length h1; simpa using this.symm
      have hi2 : i < ds.length := by rw [hlen, List.length_take]; omega
      have := congrArg (·[i]?) h1
      simp only [List.getElem?_map, List.getElem?_take, hi, if_true] at this
      have ho2 : l[i]? = some o := by simpa using ho
      rw [ho2, List.getElem?_eq_getElem hi2] at this
      simp only [Option.map_some, Option.some.injEq] at this
      refine ⟨?_, hi2⟩
      rw [this, List.getD_eq_getElem?_getD, List.getElem?_eq_getElem hi2]; rfl
    have hput : ∀ v, (putHd a ds vs).put o.dst v = putHd a ds (upd vs i v) := by
      intro v
      rw [hdst.1]
      have hi2 : i < ds.length := hdst.2
      have hgd : ds.getD i 0 = ds[i]'hi2 := by rw [List.getD_eq_getElem?_getD, List.getElem?_eq_getElem hi2]; rfl
      refine putHd_put ?_ ?_
      · rw [hgd]
        rw [List.idxOf?_eq_some_iff]
        refine ⟨hi2, by simp, fun j hj => ?_⟩
        intro e
        have e2 : ds[j]'(by omega) = ds[i]'hi2 := by simpa using e
        have := (List.pairwise_iff_getElem.1 h2) j i (by omega) hi2 hj
        exact this e2
      · intro s k hk e
        subst e
        obtain ⟨hk2, hk3⟩ := hidx s k hk
        rw [hgd, hk3]
    unfold Oper.wp
    generalize (execOp (putHd a ds vs).eval o).run P W = r at hs ⊢
    cases r with
    | ok x W' =>
      cases x with
      | value v => exact ⟨v, hput v, hs.1, hs.2⟩
      | skip => exact ⟨undef, hput undef, hs.1, hs.2⟩
      | enter f args => exact Calls.mono hs fun e W'' ⟨v, he, hR, hX⟩ => by subst he; exact ⟨v, hput v, hR, hX⟩
      | _ => exact hs.elim
    | halt h W' => exact hs.elim
end
end Go.Proofs.Ytcjkechemjdboaa
