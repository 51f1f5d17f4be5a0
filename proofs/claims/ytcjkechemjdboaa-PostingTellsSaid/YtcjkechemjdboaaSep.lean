/- Pieces of memory of a call's own, that lie apart: what a store, an append, a new block or a call leaves of them. -/
import Derived.Test.YtcjkechemjdboaaBase
namespace Go.Proofs.Ytcjkechemjdboaa
open Go Go.RowKit
/-- a piece of memory: the blocks that it lies in, and what is said of them -/
structure Pc where
  foot : Nat → Prop
  holds : World → Prop
  inh : ∀ w : World, holds w → ∀ k, foot k → k < w.heap.size
  loc : ∀ w w' : World, holds w → (∀ k, foot k → w'.heap[k]? = w.heap[k]?) → holds w'
/-- a block that is known whole -/
def Pc.blk (g : Nat) (t : TypeId) (cs : Array Value) : Pc :=
  ⟨fun k => k = g, fun w => Blk w g t cs, fun _ h k e => by subst e; exact h.lt, fun _ _ h hk => (hk g rfl).trans h⟩
theorem own_loc {w w' : World} {base : Nat} {e : TypeId} {size : Nat} {q : Option Addr} {n c : Nat} {xs : List Value} (h : w.ownsRow base e size (.slice q n c) n xs) (hk : ∀ k, blkOf q = some k → w'.heap[k]? = w.heap[k]?) :
    w'.ownsRow base e size (.slice q n c) n xs := by
  refine ⟨h.1, ?_⟩
  rcases h.2 with h2 | ⟨g, cap, cur, h1, hg, hh, r⟩
  · exact .inl h2
  · refine .inr ⟨g, cap, cur, h1, hg, ?_, r⟩
    injection h1 with h1
    exact (hk g (by rw [h1]; rfl)).trans hh
theorem own_lt {w : World} {base : Nat} {e : TypeId} {size : Nat} {q : Option Addr} {n c : Nat} {xs : List Value} (h : w.ownsRow base e size (.slice q n c) n xs) {k : Nat} (hk : blkOf q = some k) : base ≤ k ∧ k < w.heap.size :=
  h.lt k (by rw [ownBlock_slice]; exact hk)
theorem own_rebase {w : World} {base B : Nat} {e : TypeId} {size : Nat} {q : Option Addr} {n c : Nat} {xs : List Value} (h : w.ownsRow base e size (.slice q n c) n xs) (hB : ∀ k, blkOf q = some k → B ≤ k) : w.ownsRow B e size (.slice q n c) n xs := by
  refine ⟨h.1, ?_⟩
  rcases h.2 with h2 | ⟨g, cap, cur, h1, hg, r⟩
  · exact .inl h2
  · refine .inr ⟨g, cap, cur, h1, hB g ?_, r⟩
    injection h1 with h1
    rw [h1]; rfl
/-- a row of the call's own -/
def Pc.own (e : TypeId) (size : Nat) (q : Option Addr) (n c : Nat) (xs : List Value) : Pc :=
  ⟨fun k => blkOf q = some k, fun w => w.ownsRow 0 e size (.slice q n c) n xs, fun _ h _ hk => (own_lt h hk).2, fun _ _ h hk => own_loc h hk⟩
/-- pieces of the call's own, each apart from the others; what was there when the call began is as it was -/
structure Sep (w0 w : World) (Γ : List Pc) : Prop where
  ext : Ext w0 w
  all : ∀ p ∈ Γ, p.holds w
  new : ∀ p ∈ Γ, ∀ k, p.foot k → w0.heap.size ≤ k
  apart : Γ.Pairwise fun p q => ∀ k, p.foot k → ¬ q.foot k
section
variable {w0 w w' : World} {Γ Δ : List Pc}
theorem Sep.start (w : World) : Sep w w [] := ⟨Below.refl _ _, fun _ h => (nomatch h), fun _ h => (nomatch h), List.Pairwise.nil⟩
theorem Sep.lt (S : Sep w0 w Γ) {p : Pc} (hp : p ∈ Γ) {k : Nat} (hk : p.foot k) : k < w.heap.size := p.inh w (S.all p hp) k hk
theorem Sep.call (S : Sep w0 w Γ) (h : Ext w w') : Sep w0 w' Γ :=
  ⟨Ext.trans S.ext h, fun p hp => p.loc w w' (S.all p hp) fun k hk => h.block k (S.lt hp hk), S.new, S.apart⟩
theorem Sep.junk (S : Sep w0 w Γ) (o : Obj) : Sep w0 (w.alloc o) Γ := S.call (Ext.alloc (Below.refl _ _) o)
theorem Sep.drewN (S : Sep w0 w Γ) (n : Nat) : Sep w0 (w.drewN n) Γ := S.call (Ext.drewN (Below.refl _ _) n)
theorem Sep.drew (S : Sep w0 w Γ) : Sep w0 w.drew Γ := S.call (Below.refl _ _).drew
theorem Sep.comp (S : Sep w0 w Γ) (T : Sep w w' Δ) : Sep w0 w' (Δ ++ Γ) := by
  refine ⟨Ext.trans S.ext T.ext, fun p hp => ?_, fun p hp k hk => ?_, ?_⟩
  · rcases List.mem_append.1 hp with h | h
    · exact T.all p h
    · exact (S.call T.ext).all p h
  · rcases List.mem_append.1 hp with h | h
    · exact Nat.le_trans S.ext.size (T.new p h k hk)
    · exact S.new p h k hk
  · rw [List.pairwise_append]
    refine ⟨T.apart, S.apart, fun p hp q hq k hk hk2 => ?_⟩
    have h1 := T.new p hp k hk
    have h2 := S.lt hq hk2
    omega
theorem Sep.freshB {g : Nat} {t : TypeId} {cs : Array Value} (S : Sep w0 w Γ) (h : Ext w w') (hb : Blk w' g t cs) (hg : w.heap.size ≤ g) : Sep w0 w' (.blk g t cs :: Γ) :=
  S.comp (Δ := [.blk g t cs]) ⟨h, fun p hp => by rw [List.mem_singleton] at hp; subst hp; exact hb, fun p hp k hk => by rw [List.mem_singleton] at hp; subst hp; cases hk; exact hg, List.pairwise_singleton _ _⟩
theorem Sep.alloc (S : Sep w0 w Γ) (cs : Array Value) (t : TypeId) : Sep w0 (w.alloc (.cells cs t)) (.blk w.heap.size t cs :: Γ) :=
  S.freshB (Ext.alloc (Below.refl _ _) _) (Blk.new w t cs) (Nat.le_refl _)
theorem Sep.al (S : Sep w0 w Γ) (cs : Array Value) (t : TypeId) (g : Nat) (hg : w.heap.size = g) : Sep w0 (w.alloc (.cells cs t)) (.blk g t cs :: Γ) := by subst hg; exact S.alloc cs t
theorem Sep.fresh {B : Nat} {e : TypeId} {size : Nat} {q : Option Addr} {n c : Nat} {xs : List Value} (S : Sep w0 w Γ) (h : Ext w w') (ho : w'.ownsRow B e size (.slice q n c) n xs) (hB : w.heap.size ≤ B) : Sep w0 w' (.own e size q n c xs :: Γ) :=
  S.comp (Δ := [.own e size q n c xs]) ⟨h, fun p hp => by rw [List.mem_singleton] at hp; subst hp; exact own_base ho (Nat.zero_le _), fun p hp k hk => by rw [List.mem_singleton] at hp; subst hp; exact Nat.le_trans hB (own_lt ho hk).1, List.pairwise_singleton _ _⟩
theorem Sep.nilrow (S : Sep w0 w Γ) (e : TypeId) (size : Nat) : Sep w0 w (.own e size none 0 0 [] :: Γ) :=
  S.fresh (Below.refl _ _) (World.ownsRow_nil w w.heap.size e size) (Nat.le_refl _)
theorem Sep.sub (S : Sep w0 w Γ) (h : Δ.Sublist Γ) : Sep w0 w Δ :=
  ⟨S.ext, fun p hp => S.all p (h.subset hp), fun p hp => S.new p (h.subset hp), S.apart.sublist h⟩
theorem Sep.perm (S : Sep w0 w Γ) (h : Δ.Perm Γ) : Sep w0 w Δ :=
  ⟨S.ext, fun p hp => S.all p (h.subset hp), fun p hp => S.new p (h.subset hp), (h.symm.pairwise_iff (fun {p q} h k hq hp => h k hp hq)).1 S.apart⟩
/-- the pieces at these places, in this order -/
def pickL (Γ : List Pc) (is : List Nat) : List Pc := is.filterMap fun i => Γ[i]?
theorem Sep.apart_at (S : Sep w0 w Γ) {i j : Nat} {p q : Pc} (hi : Γ[i]? = some p) (hj : Γ[j]? = some q) (hne : i ≠ j) {k : Nat} (hp : p.foot k) (hq : q.foot k) : False := by
  obtain ⟨hi1, rfl⟩ := List.getElem?_eq_some_iff.1 hi
  obtain ⟨hj1, rfl⟩ := List.getElem?_eq_some_iff.1 hj
  rcases Nat.lt_or_gt_of_ne hne with h | h
  · exact List.pairwise_iff_getElem.1 S.apart i j hi1 hj1 h k hp hq
  · exact List.pairwise_iff_getElem.1 S.apart j i hj1 hi1 h k hq hp
theorem Sep.pick (S : Sep w0 w Γ) (is : List Nat) (hn : is.Nodup) (he : Δ = pickL Γ is) : Sep w0 w Δ := by
  subst he
  refine ⟨S.ext, fun p hp => ?_, fun p hp => ?_, ?_⟩
  · obtain ⟨i, _, h⟩ := List.mem_filterMap.1 hp
    exact S.all p (List.mem_of_getElem? h)
  · obtain ⟨i, _, h⟩ := List.mem_filterMap.1 hp
    exact S.new p (List.mem_of_getElem? h)
  · unfold pickL
    rw [List.pairwise_filterMap]
    refine hn.imp ?_
    intro i j hne p hp q hq k hk hk2
    exact S.apart_at hp hq hne hk hk2
/-- **one piece is turned, the others stay** -/
theorem Sep.put (S : Sep w0 w Γ) (j : Nat) {p : Pc} (hj : Γ[j]? = some p) (p' : Pc) {row : Option Nat} (hg : w.grownBy w' row) (hrow : ∀ k, row = some k → p.foot k) (hp : p'.holds w') (hf : ∀ k, p'.foot k → p.foot k ∨ w.heap.size ≤ k) : Sep w0 w' (Γ.set j p') := by
  obtain ⟨hj1, hj2⟩ := List.getElem?_eq_some_iff.1 hj
  have hpm : p ∈ Γ := by rw [← hj2]; exact List.getElem_mem _
  have hmem : ∀ x ∈ Γ.set j p', x = p' ∨ ∃ i, i ≠ j ∧ Γ[i]? = some x := by
    intro x hx
    obtain ⟨i, hi, rfl⟩ := List.mem_iff_getElem.1 hx
    rw [List.length_set] at hi
    rw [List.getElem_set]
    by_cases e : j = i
    · left; rw [if_pos e]
    · right; rw [if_neg e]; exact ⟨i, fun h => e h.symm, List.getElem?_eq_getElem hi⟩
  have hold : ∀ (i : Nat) x, i ≠ j → Γ[i]? = some x → ∀ k, x.foot k → w'.heap[k]? = w.heap[k]? := by
    intro i x hi hx k hk
    exact hg.block k (S.lt (List.mem_of_getElem? hx) hk) fun e => S.apart_at hx hj hi hk (hrow k e.symm)
  refine ⟨Below.trans S.ext ⟨hg.os, hg.tape, hg.output, hg.size, fun k hk => hg.block k (Nat.lt_of_lt_of_le hk S.ext.size) fun e => ?_⟩, fun x hx => ?_, fun x hx k hk => ?_, ?_⟩
  · have := S.new p hpm k (hrow k e.symm); omega
  · rcases hmem x hx with rfl | ⟨i, hi, hx⟩
    · exact hp
    · exact x.loc w w' (S.all x (List.mem_of_getElem? hx)) (hold i x hi hx)
  · rcases hmem x hx with rfl | ⟨i, hi, hx⟩
    · rcases hf k hk with h | h
      · exact S.new p hpm k h
      · exact Nat.le_trans S.ext.size h
    · exact S.new x (List.mem_of_getElem? hx) k hk
  · rw [List.pairwise_iff_getElem]
    intro a b ha hb hab k hka hkb
    rw [List.length_set] at ha hb
    rw [List.getElem_set] at hka hkb
    have key : ∀ i (hi : i < Γ.length), i ≠ j → p'.foot k → (Γ[i]).foot k → False := by
      intro i hi hne h1 h2
      rcases hf k h1 with h | h
      · exact S.apart_at hj (List.getElem?_eq_getElem hi) (fun e => hne e.symm) h h2
      · have := S.lt (List.getElem_mem hi) h2; omega
    by_cases e1 : j = a
    · rw [if_pos e1] at hka
      rw [if_neg (by omega)] at hkb
      exact key b hb (by omega) hka hkb
    · rw [if_neg e1] at hka
      by_cases e2 : j = b
      · rw [if_pos e2] at hkb
        exact key a ha (fun h => e1 h.symm) hkb hka
      · rw [if_neg e2] at hkb
        exact S.apart_at (List.getElem?_eq_getElem ha) (List.getElem?_eq_getElem hb) (by omega) hka hkb
theorem grown_set (w : World) (a : Addr) (u : Value) : w.grownBy (w.setCell a u) (some a.block) :=
  ⟨rfl, rfl, rfl, by simp [World.setCell], fun k _ hk => Below.heap_setCell w a u k (fun e => hk (by rw [e]))⟩
theorem Sep.blk (S : Sep w0 w Γ) (j : Nat) {g : Nat} {t : TypeId} {cs : Array Value} (hj : Γ[j]? = some (.blk g t cs)) : Blk w g t cs := S.all _ (List.mem_of_getElem? hj)
theorem Sep.bge (S : Sep w0 w Γ) (j : Nat) {g : Nat} {t : TypeId} {cs : Array Value} (hj : Γ[j]? = some (.blk g t cs)) : w0.heap.size ≤ g := S.new _ (List.mem_of_getElem? hj) g rfl
theorem Sep.own (S : Sep w0 w Γ) (j : Nat) {e : TypeId} {size : Nat} {q : Option Addr} {n c : Nat} {xs : List Value} (hj : Γ[j]? = some (.own e size q n c xs)) : w.ownsRow w0.heap.size e size (.slice q n c) n xs :=
  own_rebase (S.all _ (List.mem_of_getElem? hj)) fun k hk => S.new _ (List.mem_of_getElem? hj) k hk
theorem Sep.rd (S : Sep w0 w Γ) (j : Nat) {e : TypeId} {size : Nat} {q : Option Addr} {n c : Nat} {xs : List Value} (hj : Γ[j]? = some (.own e size q n c xs)) (hs : n ≤ 9223372036854775807) : Rd w size q n xs := Rd.of_own (S.own j hj) hs
theorem Sep.set (S : Sep w0 w Γ) (j : Nat) {g : Nat} {t : TypeId} {cs : Array Value} (hj : Γ[j]? = some (.blk g t cs)) (i : Nat) (u : Value) : Sep w0 (w.setCell ⟨g, i, none⟩ u) (Γ.set j (.blk g t (cs.setIfInBounds i u))) :=
  S.put j hj _ (grown_set w ⟨g, i, none⟩ u) (fun k hk => by injection hk with hk; exact hk.symm) ((S.blk j hj).set_ i u) (fun k hk => .inl hk)
end
theorem Rd.drew {w : World} {size n : Nat} {p : Option Addr} {xs : List Value} (h : Rd w size p n xs) : Rd w.drew size p n xs := h.ext (Below.refl _ _).drew
/-- many rows, all of one element type; whether they lie apart from one another is not said -/
def Pc.many (e : TypeId) (size : Nat) (rows : List (Hd × List Value)) : Pc :=
  ⟨fun k => ∃ r ∈ rows, blkOf r.1.p = some k, fun w => ∀ r ∈ rows, w.ownsRow 0 e size (.slice r.1.p r.1.n r.1.c) r.1.n r.2, fun _ h k ⟨r, hr, hk⟩ => (own_lt (h r hr) hk).2, fun _ _ h hk r hr => own_loc (h r hr) fun k hb => hk k ⟨r, hr, hb⟩⟩
theorem Sep.many0 {w0 w : World} {Γ : List Pc} (S : Sep w0 w Γ) (e : TypeId) (size : Nat) : Sep w0 w (.many e size [] :: Γ) :=
  ⟨S.ext, fun p hp => by
    rcases List.mem_cons.1 hp with rfl | h
    · exact fun r hr => nomatch hr
    · exact S.all p h, fun p hp k hk => by
    rcases List.mem_cons.1 hp with rfl | h
    · obtain ⟨r, hr, _⟩ := hk; cases hr
    · exact S.new p h k hk, List.pairwise_cons.2 ⟨(fun q _ k ⟨r, hr, _⟩ => nomatch hr), S.apart⟩⟩
/-- a row is put to the many -/
theorem Sep.gather {w0 w : World} {Γ : List Pc} {e : TypeId} {size : Nat} {q : Option Addr} {n c : Nat} {xs : List Value} {rows : List (Hd × List Value)} (S : Sep w0 w (.own e size q n c xs :: .many e size rows :: Γ)) : Sep w0 w (.many e size (rows ++ [(⟨q, n, c⟩, xs)]) :: Γ) := by
  have h1 := S.all _ (List.mem_cons_self ..)
  have h2 : (Pc.many e size rows).holds w := S.all _ (List.mem_cons_of_mem _ (List.mem_cons_self ..))
  have p1 := List.pairwise_cons.1 S.apart
  have p2 := List.pairwise_cons.1 p1.2
  have hf : ∀ k, (Pc.many e size (rows ++ [(⟨q, n, c⟩, xs)])).foot k → (Pc.own e size q n c xs).foot k ∨ (Pc.many e size rows).foot k := by
    rintro k ⟨r, hr, hk⟩
    rcases List.mem_append.1 hr with h | h
    · exact .inr ⟨r, h, hk⟩
    · rw [List.mem_singleton] at h; subst h; exact .inl hk
  refine ⟨S.ext, fun p hp => ?_, fun p hp k hk => ?_, List.pairwise_cons.2 ⟨fun q' hq' k hk => ?_, p2.2⟩⟩
  · rcases List.mem_cons.1 hp with rfl | h
    · intro r hr
      rcases List.mem_append.1 hr with h | h
      · exact h2 r h
      · rw [List.mem_singleton] at h; subst h; exact h1
    · exact S.all p (by simp [h])
  · rcases List.mem_cons.1 hp with rfl | h
    · rcases hf k hk with h | h
      · exact S.new _ (by simp) k h
      · exact S.new _ (List.mem_cons_of_mem _ (List.mem_cons_self ..)) k h
    · exact S.new p (by simp [h]) k hk
  · rcases hf k hk with h | h
    · exact p1.1 q' (by simp [hq']) k h
    · exact p2.1 q' hq' k h
theorem Sep.manyAt {w0 w : World} {Γ : List Pc} (S : Sep w0 w Γ) (j : Nat) {e : TypeId} {size : Nat} {rows : List (Hd × List Value)} (hj : Γ[j]? = some (.many e size rows)) : ∀ r ∈ rows, w.ownsRow 0 e size (.slice r.1.p r.1.n r.1.c) r.1.n r.2 := S.all _ (List.mem_of_getElem? hj)
/-- what is known of a world, and of all that only grow out of it -/
def Kn (w : World) (Φ : List (World → Prop)) : Prop := ∀ φ ∈ Φ, ∀ w', Ext w w' → φ w'
theorem Kn.nil (w : World) : Kn w [] := fun _ h => nomatch h
theorem Kn.ext {w w' : World} {Φ : List (World → Prop)} (h : Kn w Φ) (he : Ext w w') : Kn w' Φ := fun φ hφ w2 h2 => h φ hφ w2 (Ext.trans he h2)
theorem Kn.add {w : World} {Φ : List (World → Prop)} (h : Kn w Φ) (φ : World → Prop) (hφ : ∀ w', Ext w w' → φ w') : Kn w (φ :: Φ) := fun ψ hψ => by
  rcases List.mem_cons.1 hψ with rfl | h1
  · exact hφ
  · exact h ψ h1
theorem Kn.get {w : World} {Φ : List (World → Prop)} (h : Kn w Φ) (i : Nat) {φ : World → Prop} (hi : Φ[i]? = some φ) : φ w := h φ (List.mem_of_getElem? hi) w (Below.refl _ _)
theorem ret_slc {p : Option Addr} {n m c : Nat} (h : n = m) : Ending.returned (.slice p n c) = .returned (.slice p m c) := by rw [h]
/-- what a new block reads -/
theorem Rd.new (w : World) (t : TypeId) (cs : List Value) (n size : Nat) (h : cs.length = n * size) (hn : n ≤ 9223372036854775807) : Rd (w.alloc (.cells cs.toArray t)) size (some ⟨w.heap.size, 0, none⟩) n cs := by
  refine ⟨h, .inr ⟨_, _, rfl⟩, hn, fun j hj => ?_⟩
  rw [adr_some, Nat.zero_add, (Blk.new w t cs.toArray).cell]
  simp [List.getElem?_eq_getElem (show j < cs.length by omega)]
section
variable {P : Program} {w0 w : World} {Γ : List Pc}
/-- a store into an own row -/
theorem own_put1 {base : Nat} {e : TypeId} {size : Nat} {q : Option Addr} {n c : Nat} {xs : List Value} (ho : w.ownsRow base e size (.slice q n c) n xs) (k : Nat) (hk : k < n * size) (u : Value) :
    (w.setCell (adr q k) u).ownsRow base e size (.slice q n c) n (xs.set k u) := by
  refine ⟨by rw [List.length_set]; exact ho.1, ?_⟩
  rcases ho.2 with ⟨h1, h2⟩ | ⟨g, cap, cur, h1, hg, hh, hn, hc, hs, hx⟩
  · subst h2; simp at hk
  · injection h1 with h1 h2 h3
    subst h1 h3
    refine .inr ⟨g, c, cur.setIfInBounds k u, rfl, hg, ?_, hn, hc, by simpa using hs, ?_⟩
    · have : Blk w g e cur := hh
      have h4 := this.set_ k u
      unfold Blk at h4
      simpa [adr] using h4
    · rw [Array.toList_setIfInBounds, ← hx, List.take_set]
theorem Sep.setRow (S : Sep w0 w Γ) (j : Nat) {e : TypeId} {size : Nat} {q : Option Addr} {n c : Nat} {xs : List Value} (hj : Γ[j]? = some (.own e size q n c xs)) (k : Nat) (hk : k < n * size) (u : Value) :
    Sep w0 (w.setCell (adr q k) u) (Γ.set j (.own e size q n c (xs.set k u))) := by
  have ho := S.own j hj
  refine S.put j hj _ (grown_set w (adr q k) u) (fun k' hk' => ?_) (own_base (own_put1 ho k hk u) (Nat.zero_le _)) (fun k hk => .inl hk)
  injection hk' with hk'
  subst hk'
  show blkOf q = _
  rcases ho.2 with ⟨h1, h2⟩ | ⟨g, cap, cur, h1, _⟩
  · subst h2; simp at hk
  · injection h1 with h1
    rw [h1]; rfl
theorem own_frozen {base : Nat} {e : TypeId} {size : Nat} {q : Option Addr} {n c : Nat} {xs : List Value} (ho : w.ownsRow base e size (.slice q n c) n xs) (h : 0 < n * size) (k : Nat) : w.frozen? (adr q k) = false := by
  rcases ho.2 with ⟨h1, h2⟩ | ⟨g, cap, cur, h1, hg, hh, _⟩
  · subst h2; simp at h
  · injection h1 with h1 h2 h3
    subst h1
    have : Blk w g e cur := hh
    simpa [adr] using this.frozen k
theorem own_cell {base : Nat} {e : TypeId} {size : Nat} {q : Option Addr} {n c : Nat} {xs : List Value} (ho : w.ownsRow base e size (.slice q n c) n xs) {k : Nat} (hk : k < n * size) : w.cell? (adr q k) = some (xs.getD k undef) := by
  rcases ho.2 with ⟨h1, h2⟩ | ⟨g, cap, cur, h1, hg, hh, hn, hc, hs, hx⟩
  · subst h2; simp at hk
  · injection h1 with h1 h2 h3
    subst h1
    have : Blk w g e cur := hh
    have h4 := this.cell k
    have h5 : n * size ≤ cap * size := Nat.mul_le_mul_right _ hn
    simp only [adr, Option.getD_some, Nat.zero_add]
    rw [h4, ← hx, List.getD_eq_getElem?_getD, List.getElem?_take, if_pos hk]
    simp [show k < cur.size by omega]
theorem frozen_alloc_adr (w : World) (o : Obj) (p : Option Addr) (j : Nat) (h : (adr p 0).block < w.heap.size) : (w.alloc o).frozen? (adr p j) = w.frozen? (adr p j) :=
  World.frozen?_of_block (Below.heap_alloc w o _ h)
theorem frozen_alloc_lt (w : World) (o : Obj) (a : Addr) (h : a.block < w.heap.size) : (w.alloc o).frozen? a = w.frozen? a :=
  World.frozen?_of_block (Below.heap_alloc w o _ h)
attribute [go_sem] frozen_alloc_adr frozen_alloc_lt
theorem adr_other (q : Option Addr) {i j : Nat} (h : i ≠ j) : adr q i ≠ adr q j := by
  unfold adr; intro e; injection e; omega
theorem Sep.blt {w0 w : World} {Γ : List Pc} (S : Sep w0 w Γ) (j : Nat) {e : TypeId} {size : Nat} {q : Option Addr} {n c : Nat} {xs : List Value} (hj : Γ[j]? = some (.own e size q n c xs)) (h : 0 < n) : w0.heap.size ≤ (adr q 0).block ∧ (adr q 0).block < w.heap.size := by
  have ho := S.own j hj
  rcases ho.2 with ⟨_, h2⟩ | ⟨g, cap, cur, h1, _⟩
  · omega
  · injection h1 with h1
    exact own_lt ho (k := (adr q 0).block) (by rw [h1]; rfl)
/-- two cells of an own row, one behind the other -/
theorem Sep.setRow2 (S : Sep w0 w Γ) (j : Nat) {e : TypeId} {size : Nat} {q : Option Addr} {n c : Nat} {xs : List Value} (hj : Γ[j]? = some (.own e size q n c xs)) (k : Nat) (hk : k + 1 < n * size) (u v : Value) :
    Sep w0 ((w.setCell (adr q k) u).setCell ⟨(adr q k).block, (adr q k).off + 1, none⟩ v) (Γ.set j (.own e size q n c ((xs.set k u).set (k + 1) v))) := by
  have hjl := (List.getElem?_eq_some_iff.1 hj).1
  have := (S.setRow j hj k (by omega) u).setRow j (List.getElem?_set_self hjl) (k + 1) hk v
  rwa [List.set_set] at this
/-- **append onto a piece** -/
theorem wpList_append_sep {ops : Array Oper} {rest : List Oper} {o : Oper} {a : Act} {Q : Exit → Act → World → Prop} (hgd : o.guard = none) (s x : Operand) (t : TypeId)
    (ho : o.op = .call { callee := .builtin .append, args := #[s, x], argTypes := #[t, t] })
    (e : TypeId) (i : TypeInfo) (z : Value) (size bytes : Nat) (ht : P.underlying t = some (.slice e)) (hi : P.info? e = some i) (hz : i.zero = some z)
    (hsize : i.size = size) (hby : i.bytes = bytes) (hzs : z.cells.size = size) (hsz : 0 < size)
    (S : Sep w0 w Γ) (j : Nat) (q : Option Addr) (n cq : Nat) (xs : List Value) (hs : a.eval s = .slice q n cq) (hj : Γ[j]? = some (.own e size q n cq xs))
    (A : Option Addr) (m c : Nat) (news : List Value) (hx : a.eval x = .slice A m c) (hr : Rd w size A m news) (h1 : ∀ u ∈ news, u.oneCell' = true)
    (hbytes : (n + m) * bytes ≤ 140737488355328) (h63 : n + m ≤ 140737488355328)
    (h : ∀ q' c' w', Sep w0 w' (Γ.set j (.own e size q' (n + m) c' (xs ++ news))) → w.heap.size ≤ w'.heap.size → wpList P ops Q rest (a.put o.dst (.slice q' (n + m) c')) w') : wpList P ops Q (o :: rest) a w := by
  refine wpList_append_rd hgd s x t ho w0.heap.size e i z size bytes ht hi hz hsize hby hzs hsz q n cq xs hs (S.own j hj) A m c news hx hr h1 hbytes h63 S.ext.size ?_
  intro q' c' w' ho' hg hat _
  refine h q' c' w' (S.put j hj _ hg (fun k hk => hk) (own_base ho' (Nat.zero_le _)) fun k hk => ?_) hg.size
  rcases hat with h | h
  · exact .inl (h.symm.trans hk)
  · have : some w.heap.size = some k := h.symm.trans hk
    injection this with this
    exact .inr (by omega)
end
end Go.Proofs.Ytcjkechemjdboaa
