/- Words for all walks of this seat: slices with an open pointer, what a slice reads, worlds that only grow, a region that draws its order whose calls may make memory. -/
import Derived.WalkKit
import Derived.WalkSpells
import Derived.WalkLawsBesides
import Derived.Outline
import Derived.BigQuiet
import Derived.Deep.QuietTactic
import Derived.LoopTactic
import Derived.Lib.Hide
import Derived.Maps.AppendAt
import Derived.Deep.AppendLies
import Derived.OwnWalk
import Derived.Sort.Walk0
import Derived.StillTailTactics
import Derived.Deep.DeepCutAuto
namespace Go.Proofs.Ytcjkechemjdboaa
open Go Go.RowKit
/-- the address of cell j of a slice's row; of the nil slice: nothing that is read -/
def adr (p : Option Addr) (j : Nat) : Addr := ⟨(p.getD ⟨0, 0, none⟩).block, (p.getD ⟨0, 0, none⟩).off + j, none⟩
/-- a slice's pointer is plain: at a place in a block, or the slice is empty -/
def SlP (p : Option Addr) (n : Nat) : Prop := n = 0 ∨ ∃ b o, p = some ⟨b, o, none⟩
theorem SlP.some {p : Option Addr} {n : Nat} (h : SlP p n) (hn : 0 < n) : p = Option.some (adr p 0) := by
  rcases h with h | ⟨b, o, rfl⟩
  · omega
  · simp [adr]
theorem adr_add (p : Option Addr) (j n : Nat) : (adr p j).add n = adr p (j + n) := by
  by_cases h : n = 0
  · subst h; simp [adr, Addr.add]
  · simp [adr, Addr.add, h, Nat.add_assoc]
theorem adr_block (p : Option Addr) (j : Nat) : (adr p j).block = (adr p 0).block := rfl
theorem adr_some (b o j : Nat) : adr (some ⟨b, o, none⟩) j = ⟨b, o + j, none⟩ := rfl
theorem adr_zero_add (p : Option Addr) (j : Nat) : (adr p j).add 0 = adr p j := by rw [adr_add]; rfl
attribute [go_sem ↓ high] adr_add
attribute [go_sem ↓ high] adr_zero_add
section
variable {P : Program}
theorem run_indexAt_opt (w : World) (t : TypeId) (p : Option Addr) (len cap : Nat) (k : IntKind) (i : Int) (h : P.underlying t = some (.slice (P.elem t))) (hp : SlP p len) :
    (Instr.indexAt t (.slice p len cap) (.int k i)).run P w =
      if 0 ≤ i ∧ i < len then ((sizeOf (P.elem t)).run P w).andThen fun s w => .ok (.pointer (some (adr p (i.toNat * s)))) w
      else (boundsPanic k i (if p.isSome then (len : Int) else 0) .index).run P w := by
  rcases hp with hp | ⟨b, o, rfl⟩
  · subst hp
    rw [if_neg (by omega)]
    cases p <;> simp [Instr.indexAt, run_underlying h, asIntOf]
    intro h1 h2; omega
  · rw [run_indexAt_slice _ _ _ _ _ _ _ h]; simp [adr, Addr.add_lit]
attribute [go_sem] run_indexAt_opt
theorem cell_alloc_adr (w : World) (o : Obj) (p : Option Addr) (j : Nat) (h : (adr p 0).block < w.heap.size) : (w.alloc o).cell? (adr p j) = w.cell? (adr p j) :=
  World.cell?_alloc_lt w o (adr p j) h
attribute [go_sem] cell_alloc_adr
end

/-- the world has only grown: all blocks that were there are as they were -/
abbrev Ext (w w' : World) : Prop := Below w.heap.size w w'
section
variable {a b c w w' : World}
theorem Ext.refl (w : World) : Ext w w := Below.refl _ _
theorem Ext.trans (h : Ext a b) (k : Ext b c) : Ext a c := Below.trans h (k.mono h.size)
theorem Ext.alloc (h : Ext a w) (o : Obj) : Ext a (w.alloc o) := Below.alloc h h.size o
theorem Below.drewN {B : Nat} (h : Below B a w) (n : Nat) : Below B a (w.drewN n) := ⟨h.os, h.tape, h.output, h.size, h.block⟩
theorem Ext.drewN (h : Ext a w) (n : Nat) : Ext a (w.drewN n) := ⟨h.os, h.tape, h.output, h.size, h.block⟩
theorem Ext.cell (h : Ext a b) {p : Addr} {v : Value} (hc : a.cell? p = some v) : b.cell? p = some v := by
  rw [Below.cell h (World.block_lt_of_cell? a p hc)]; exact hc
/-- a cell that was there below B -/
theorem celly {B : Nat} (h : Below B a b) {p : Addr} {v : Value} (hc : a.cell? p = some v) (hB : p.block < B) : b.cell? p = some v := by
  rw [Below.cell h hB]; exact hc
theorem Ext.grown (h : Ext a b) : a.grownBy b none := ⟨h.os, h.tape, h.output, h.size, fun k hk _ => h.block k hk⟩
theorem Ext.own (h : Ext a b) {base : Nat} {e : TypeId} {size : Nat} {v : Value} {n : Nat} {xs : List Value} (ho : a.ownsRow base e size v n xs) : b.ownsRow base e size v n xs :=
  ho.kept h.grown (by cases v.ownBlock <;> simp)
end

/-- a world that has only grown, as one thing -/
structure ExtOf (W : World) where
  val : World
  ext : Ext W val
instance (W : World) : Nonempty (ExtOf W) := ⟨⟨W, Below.refl _ _⟩⟩

section
variable {P : Program}
/-- a region that draws its order, whose operations read, and whose calls only make memory: one walk in the text's order -/
theorem wp_region_ext {id : Nat} {Q : Exit → Act → World → Prop} {a : Act} {w : World} {l : List Oper} (hm : P.follows .mixedOrders = true) (hB : Region.lexB .any l.toArray = true)
    (h : wpQuiet P l.toArray (fun w' => ∃ x : ExtOf w, w' = x.val) (fun a' => ∀ w', (∃ x : ExtOf w, w' = x.val) → Q .normal a' w') l a) : (Code.region id l.toArray true).wp P Q a w :=
  wp_region_quiet (C := fun w' => ∃ x : ExtOf w, w' = x.val) hm hB ⟨⟨{ w with drawn := w.drawn + 1 }, ⟨rfl, rfl, rfl, Nat.le_refl _, fun _ _ => rfl⟩⟩, rfl⟩ (by simpa using h)
theorem Calls.ext_of {f : FuncId} {args : Array Value} {w : World} {x : ExtOf w} {v : Value}
    (h : Calls P f args x.val fun e w' => e = .returned v ∧ Ext x.val w') : Calls P f args x.val fun e w'' => e = .returned v ∧ ∃ y : ExtOf w, w'' = y.val :=
  h.mono fun _ w' ⟨he, hb⟩ => ⟨he, ⟨w', x.ext.trans hb⟩, rfl⟩
end

/-- the slice '.slice p n c' reads the cells xs (size cells an element) -/
structure Rd (w : World) (size : Nat) (p : Option Addr) (n : Nat) (xs : List Value) : Prop where
  len : xs.length = n * size
  ptr : SlP p n
  small : n ≤ 9223372036854775807
  cells : ∀ j, j < n * size → w.cell? (adr p j) = some (xs.getD j undef)
section
variable {w w' : World} {size n : Nat} {p : Option Addr} {xs : List Value}
theorem Rd.nil (w : World) (size : Nat) (p : Option Addr) : Rd w size p 0 [] := ⟨by simp, .inl rfl, by omega, fun j hj => by omega⟩
theorem Rd.ext (h : Rd w size p n xs) (he : Ext w w') : Rd w' size p n xs := ⟨h.len, h.ptr, h.small, fun j hj => he.cell (h.cells j hj)⟩
theorem Rd.drewN (h : Rd w size p n xs) (k : Nat) : Rd (w.drewN k) size p n xs := ⟨h.len, h.ptr, h.small, h.cells⟩
theorem Rd.lt (h : Rd w size p n xs) (hn : 0 < n * size) : (adr p 0).block < w.heap.size := World.block_lt_of_cell? w _ (h.cells 0 hn)
theorem Rd.below {B : Nat} {a : World} (h : Rd a size p n xs) (hb : Below B a w) (hB : 0 < n * size → (adr p 0).block < B) : Rd w size p n xs :=
  ⟨h.len, h.ptr, h.small, fun j hj => by rw [Below.cell hb (by rw [adr_block]; exact hB (by omega))]; exact h.cells j hj⟩
end

/-- the list's element; a plain name -/
def nth {α : Type} [Inhabited α] (l : List α) (j : Nat) : α := l.getD j default
theorem nth_eq {α : Type} [Inhabited α] {l : List α} {j : Nat} (h : j < l.length) : nth l j = l[j] := by simp [nth, h]
theorem take_succ_nth {α : Type} [Inhabited α] (l : List α) (k : Nat) (h : k < l.length) : l.take (k + 1) = l.take k ++ [nth l k] := by
  rw [List.take_succ_eq_append_getElem h, nth_eq h]
theorem drop_nth {α : Type} [Inhabited α] (l : List α) (k : Nat) (h : k < l.length) : l.drop k = nth l k :: l.drop (k + 1) := by
  rw [List.drop_eq_getElem_cons h, nth_eq h]

/-- rows of integers, texts, edges, as cells -/
def encI (l : List Int) : List Value := l.map (.int .i64)
def encS (l : List ByteArray) : List Value := l.map .string
def encE (l : List (Int × Int)) : List Value := l.flatMap fun e => [.int .i64 e.1, .int .i64 e.2]
theorem encI_len (l : List Int) : (encI l).length = l.length := by simp [encI]
theorem encS_len (l : List ByteArray) : (encS l).length = l.length := by simp [encS]
theorem encE_len (l : List (Int × Int)) : (encE l).length = l.length * 2 := by
  induction l with
  | nil => rfl
  | cons x l ih => simp only [encE, List.flatMap_cons, List.length_append, List.length_cons] at ih ⊢; rw [ih]; simp; omega
theorem encI_get (l : List Int) (k : Nat) (h : k < l.length) : (encI l).getD k undef = .int .i64 (nth l k) := by simp [encI, nth, h]
theorem encS_get (l : List ByteArray) (k : Nat) (h : k < l.length) : (encS l).getD k undef = .string (nth l k) := by simp [encS, nth, h]
theorem encE_get (l : List (Int × Int)) : ∀ (k : Nat), k < l.length → (encE l).getD (k * 2) undef = .int .i64 (nth l k).1 ∧ (encE l).getD (k * 2 + 1) undef = .int .i64 (nth l k).2 := by
  induction l with
  | nil => intro k h; simp at h
  | cons x l ih =>
    intro k h
    cases k with
    | zero => exact ⟨rfl, rfl⟩
    | succ k =>
      have := ih k (by simpa using h)
      have e1 : (k + 1) * 2 = k * 2 + 1 + 1 := by omega
      have e2 : nth (x :: l) (k + 1) = nth l k := rfl
      rw [e1, e2]
      exact this
section
variable {w w' : World} {n : Nat} {p : Option Addr}
theorem Rd.nI {l : List Int} (h : Rd w 1 p n (encI l)) : n = l.length := by have := h.len; rw [encI_len] at this; omega
theorem Rd.nS {l : List ByteArray} (h : Rd w 1 p n (encS l)) : n = l.length := by have := h.len; rw [encS_len] at this; omega
theorem Rd.nE {l : List (Int × Int)} (h : Rd w 2 p n (encE l)) : n = l.length := by have := h.len; rw [encE_len] at this; omega
theorem Rd.cI {l : List Int} (h : Rd w 1 p n (encI l)) {k : Nat} (hk : k < n) : w.cell? (adr p k) = some (.int .i64 (nth l k)) := by
  rw [h.cells k (by omega), encI_get _ _ (by have := h.nI; omega)]
theorem Rd.cS {l : List ByteArray} (h : Rd w 1 p n (encS l)) {k : Nat} (hk : k < n) : w.cell? (adr p k) = some (.string (nth l k)) := by
  rw [h.cells k (by omega), encS_get _ _ (by have := h.nS; omega)]
theorem Rd.cE {l : List (Int × Int)} (h : Rd w 2 p n (encE l)) {k : Nat} (hk : k < n) : w.cell? (adr p (k * 2)) = some (.int .i64 (nth l k).1) := by
  rw [h.cells (k * 2) (by omega), (encE_get _ _ (by have := h.nE; omega)).1]
theorem Rd.cE2 {l : List (Int × Int)} (h : Rd w 2 p n (encE l)) {k : Nat} (hk : k < n) : w.cell? (adr p (k * 2 + 1)) = some (.int .i64 (nth l k).2) := by
  rw [h.cells (k * 2 + 1) (by omega), (encE_get _ _ (by have := h.nE; omega)).2]
end

/-- the header of a row: its pointer, length, capacity -/
structure Hd where
  p : Option Addr
  n : Nat
  c : Nat
instance : Inhabited Hd := ⟨⟨none, 0, 0⟩⟩
def Hd.v (h : Hd) : Value := .slice h.p h.n h.c
def encH (l : List Hd) : List Value := l.map Hd.v
theorem encH_len (l : List Hd) : (encH l).length = l.length := by simp [encH]
theorem encH_get (l : List Hd) (k : Nat) (h : k < l.length) : (encH l).getD k undef = .slice (nth l k).p (nth l k).n (nth l k).c := by simp [encH, nth, h, Hd.v]
/-- a slice of slices of texts reads wss -/
structure RdW (w : World) (p : Option Addr) (n : Nat) (hs : List Hd) (wss : List (List ByteArray)) : Prop where
  hn : hs.length = wss.length
  row : Rd w 1 p n (encH hs)
  each : ∀ j, j < n → Rd w 1 (nth hs j).p (nth hs j).n (encS (nth wss j))
section
variable {w w' : World} {n : Nat} {p : Option Addr} {hs : List Hd} {wss : List (List ByteArray)}
theorem Rd.nH {l : List Hd} (h : Rd w 1 p n (encH l)) : n = l.length := by have := h.len; rw [encH_len] at this; omega
theorem Rd.cH {l : List Hd} (h : Rd w 1 p n (encH l)) {k : Nat} (hk : k < n) : w.cell? (adr p k) = some (.slice (nth l k).p (nth l k).n (nth l k).c) := by
  rw [h.cells k (by omega), encH_get _ _ (by have := h.nH; omega)]
theorem RdW.nW (h : RdW w p n hs wss) : n = wss.length := by rw [← h.hn]; exact h.row.nH
theorem RdW.ext (h : RdW w p n hs wss) (he : Ext w w') : RdW w' p n hs wss := ⟨h.hn, h.row.ext he, fun j hj => (h.each j hj).ext he⟩
end

section
variable {P : Program}
theorem own_form {w : World} {base : Nat} {e : TypeId} {size : Nat} {v : Value} {n : Nat} {xs : List Value} (h : w.ownsRow base e size v n xs) :
    ∃ p c, v = .slice p n c ∧ (p = none ∨ ∃ g, p = some ⟨g, 0, none⟩ ∧ base ≤ g ∧ g < w.heap.size) ∧ n ≤ c := by
  rcases h.2 with ⟨rfl, rfl⟩ | ⟨g, cap, cur, rfl, hg, hh, hn, _⟩
  · exact ⟨none, 0, rfl, .inl rfl, Nat.le_refl _⟩
  · exact ⟨_, _, rfl, .inr ⟨g, rfl, hg, (Array.getElem?_eq_some_iff.1 hh).1⟩, hn⟩
theorem Rd.of_own {w : World} {base : Nat} {e : TypeId} {size : Nat} {p : Option Addr} {c n : Nat} {xs : List Value} (h : w.ownsRow base e size (.slice p n c) n xs) (hs : n ≤ 9223372036854775807) : Rd w size p n xs := by
  have hl := h.1
  rcases h.2 with ⟨h1, rfl⟩ | ⟨g, cap, cur, h1, hg, hh, hn, _⟩
  · exact ⟨hl, .inl rfl, hs, fun j hj => by omega⟩
  · injection h1 with h1 h2 h3
    subst h1
    refine ⟨hl, .inr ⟨g, 0, rfl⟩, hs, fun j hj => ?_⟩
    have hx : xs[j]? = some (xs.getD j undef) := by rw [List.getD_eq_getElem?_getD, List.getElem?_eq_getElem (by omega)]; rfl
    have := h.cells (g := g) (by simp [Value.ownBlock]) j _ hx
    rw [Addr.add_lit] at this
    rw [adr_some]; exact this
/-- where a row of the call's own lies -/
def blkOf (p : Option Addr) : Option Nat := p.map (·.block)
theorem ownBlock_slice (p : Option Addr) (n c : Nat) : Value.ownBlock (.slice p n c) = blkOf p := by cases p <;> rfl

theorem run_append_rd (w : World) (base : Nat) (t ty e : TypeId) (i : TypeInfo) (z : Value) (size bytes : Nat) (ht : P.underlying t = some (.slice e)) (hi : P.info? e = some i) (hz : i.zero = some z)
    (hsize : i.size = size) (hby : i.bytes = bytes) (hzs : z.cells.size = size) (hsz : 0 < size)
    (q : Option Addr) (n cq : Nat) (xs : List Value) (hown : w.ownsRow base e size (.slice q n cq) n xs)
    (A : Option Addr) (m c : Nat) (news : List Value) (hr : Rd w size A m news) (h1 : ∀ u ∈ news, u.oneCell' = true)
    (hbytes : (n + m) * bytes ≤ 140737488355328) (h63 : n + m ≤ 140737488355328) (hbase : base ≤ w.heap.size) :
    ∃ q' c' w', (Builtin.append_ #[t, t] ty #[.slice q n cq, .slice A m c]).run P w = .ok (.slice q' (n + m) c') w' ∧ w'.ownsRow base e size (.slice q' (n + m) c') (n + m) (xs ++ news) ∧ w.grownBy w' (blkOf q) ∧
      (blkOf q' = blkOf q ∨ blkOf q' = some w.heap.size) ∧ Below base w w' := by
  have key : ∀ v' w', w'.ownsRow base e size v' (n + m) (xs ++ news) → w.grownBy w' (blkOf q) → (v'.ownBlock = blkOf q ∨ v'.ownBlock = some w.heap.size) →
      ∃ q' c', v' = .slice q' (n + m) c' ∧ w'.ownsRow base e size (.slice q' (n + m) c') (n + m) (xs ++ news) ∧ (blkOf q' = blkOf q ∨ blkOf q' = some w.heap.size) ∧ Below base w w' := by
    intro v' w' ho hg hat
    obtain ⟨q', c', rfl, _, _⟩ := own_form ho
    rw [ownBlock_slice] at hat
    refine ⟨q', c', rfl, ho, hat, Below.grown (Below.refl _ _) hg hbase ?_⟩
    intro k hk
    exact (hown.lt k (by rw [ownBlock_slice]; exact hk)).1
  by_cases hm : m = 0
  · subst hm
    have hn : news = [] := List.eq_nil_of_length_eq_zero (by simpa using hr.len)
    subst hn
    have hrun : (Builtin.append_ #[t, t] ty #[.slice q n cq, .slice A 0 c]).run P w = .ok (.slice q n cq) w := by
      have hnc : n ≤ cq := by
        rcases own_form hown with ⟨p, c', h1, _, h2⟩
        injection h1 with _ _ h3
        omega
      cases A <;> simp [Builtin.append_, run_underlying ht, sizeOf, typeInfo, hi, Builtin.lenOf, Builtin.firstCells, hnc, loadCells, loadCellsFrom]
      all_goals (cases q <;> simp [storeCells])
    exact ⟨q, cq, w, hrun, by simpa using hown, World.grownBy.refl w _, .inl rfl, Below.refl _ _⟩
  · obtain ⟨ad, rfl⟩ : ∃ ad, A = some ad := by
      rw [hr.ptr.some (by omega)]; exact ⟨_, rfl⟩
    have had : ad = adr (some ad) 0 := by have := hr.ptr.some (by omega); injection this
    have hcells : ∀ j u, news[j]? = some u → w.cell? (ad.add j) = some u := by
      intro j u hu
      have hj : j < news.length := by
        rcases Nat.lt_or_ge j news.length with h | h
        · exact h
        · rw [List.getElem?_eq_none h] at hu; cases hu
      have := hr.cells j (by rw [← hr.len]; exact hj)
      rw [had, adr_add, Nat.zero_add, this, List.getD_eq_getElem?_getD, hu]; rfl
    obtain ⟨v', w', hrun, h2, h3, _, h5⟩ := run_append_own_at (P := P) w base t ty e i z size bytes ht hi hz hsize hby hzs hsz (.slice q n cq) n xs hown ad m c news hr.len hcells h1 (by unfold maxLen; omega) hbytes hbase
    rw [ownBlock_slice] at h3 h5
    obtain ⟨q', c', rfl, ho, hat, hb⟩ := key v' w' h2 h3 h5
    exact ⟨q', c', w', hrun, ho, h3, hat, hb⟩

theorem wpList_append_rd {w : World} {ops : Array Oper} {rest : List Oper} {o : Oper} {a : Act} {Q : Exit → Act → World → Prop} (hgd : o.guard = none) (s x : Operand) (t : TypeId)
    (ho : o.op = .call { callee := .builtin .append, args := #[s, x], argTypes := #[t, t] })
    (base : Nat) (e : TypeId) (i : TypeInfo) (z : Value) (size bytes : Nat) (ht : P.underlying t = some (.slice e)) (hi : P.info? e = some i) (hz : i.zero = some z)
    (hsize : i.size = size) (hby : i.bytes = bytes) (hzs : z.cells.size = size) (hsz : 0 < size)
    (q : Option Addr) (n cq : Nat) (xs : List Value) (hs : a.eval s = .slice q n cq) (hown : w.ownsRow base e size (.slice q n cq) n xs)
    (A : Option Addr) (m c : Nat) (news : List Value) (hx : a.eval x = .slice A m c) (hr : Rd w size A m news) (h1 : ∀ u ∈ news, u.oneCell' = true)
    (hbytes : (n + m) * bytes ≤ 140737488355328) (h63 : n + m ≤ 140737488355328) (hbase : base ≤ w.heap.size)
    (h : ∀ q' c' w', w'.ownsRow base e size (.slice q' (n + m) c') (n + m) (xs ++ news) → w.grownBy w' (blkOf q) → (blkOf q' = blkOf q ∨ blkOf q' = some w.heap.size) → Below base w w' → wpList P ops Q rest (a.put o.dst (.slice q' (n + m) c')) w') : wpList P ops Q (o :: rest) a w :=
  wpList_plain hgd fun K hK => by
    obtain ⟨q', c', w', hrun, h2, h3, h4, h5⟩ := run_append_rd (P := P) w base t o.type e i z size bytes ht hi hz hsize hby hzs hsz q n cq xs hown A m c news hr h1 hbytes h63 hbase
    unfold Oper.wp execOp
    simp only [ho, resolve, invoke, builtin, Sem.run_bind, Sem.run_pure, Result.andThen_ok, List.map_toArray, List.map_cons, List.map_nil, hs, hx, hrun]
    exact hK _ _ (h q' c' w' h2 h3 h4 h5)
end
theorem one_encI (l : List Int) : ∀ u ∈ encI l, u.oneCell' = true := by intro u hu; simp only [encI, List.mem_map] at hu; obtain ⟨x, _, rfl⟩ := hu; rfl
theorem one_encS (l : List ByteArray) : ∀ u ∈ encS l, u.oneCell' = true := by intro u hu; simp only [encS, List.mem_map] at hu; obtain ⟨x, _, rfl⟩ := hu; rfl
theorem one_encH (l : List Hd) : ∀ u ∈ encH l, u.oneCell' = true := by intro u hu; simp only [encH, List.mem_map] at hu; obtain ⟨x, _, rfl⟩ := hu; rfl
theorem one_encE (l : List (Int × Int)) : ∀ u ∈ encE l, u.oneCell' = true := by
  intro u hu; simp only [encE, List.mem_flatMap] at hu; obtain ⟨x, _, h⟩ := hu; simp at h; rcases h with rfl | rfl <;> rfl

/-- a cut of a slice keeps the elder address where nothing is left of the capacity -/
def cutp (p : Option Addr) (c l s : Nat) : Option Addr := if c = l then p else p.map (·.add (l * s))
section
variable {P : Program} (w : World) (t : TypeId) (p : Option Addr) (n c : Nat) (ht : P.underlying t = some (.slice (P.elem t)))
include ht
theorem run_cut_h (kh : IntKind) (h : Int) (h0 : 0 ≤ h) (h2 : h ≤ c) :
    (Instr.slice t (.slice p n c) none (some (.int kh h)) none).run P w = ((sizeOf (P.elem t)).run P w).andThen fun s w => .ok (.slice (cutp p c 0 s) h.toNat c) w := by
  rw [run_slice_h w t p n c ht kh h h0 h2]; simp only [sliced, cutp, Nat.sub_zero]
theorem run_cut_l (kl : IntKind) (l : Int) (h0 : 0 ≤ l) (h1 : l ≤ n) :
    (Instr.slice t (.slice p n c) (some (.int kl l)) none none).run P w = ((sizeOf (P.elem t)).run P w).andThen fun s w => .ok (.slice (cutp p c l.toNat s) (n - l.toNat) (c - l.toNat)) w := by
  rw [run_slice_l w t p n c ht kl l h0 h1]; simp only [sliced, cutp]
theorem run_cut_lh (kl kh : IntKind) (l h : Int) (h0 : 0 ≤ l) (h1 : l ≤ h) (h2 : h ≤ c) :
    (Instr.slice t (.slice p n c) (some (.int kl l)) (some (.int kh h)) none).run P w = ((sizeOf (P.elem t)).run P w).andThen fun s w => .ok (.slice (cutp p c l.toNat s) (h.toNat - l.toNat) (c - l.toNat)) w := by
  rw [run_slice_lh w t p n c ht kl kh l h h0 h1 h2]; simp only [sliced, cutp]
end
attribute [go_sem ↓ high] run_cut_h run_cut_l run_cut_lh
theorem Rd.cut {w : World} {size : Nat} {p : Option Addr} {n : Nat} {xs : List Value} (hr : Rd w size p n xs) {l h c : Nat} (hl : l ≤ h) (hh : h ≤ n) (hc : n ≤ c) :
    Rd w size (cutp p c l size) (h - l) ((xs.drop (l * size)).take ((h - l) * size)) := by
  have hlen := hr.len
  have hm : h * size ≤ n * size := Nat.mul_le_mul_right _ hh
  have hlm : l * size ≤ h * size := Nat.mul_le_mul_right _ hl
  have hsub : (h - l) * size = h * size - l * size := Nat.sub_mul _ _ _
  refine ⟨?_, ?_, Nat.le_trans (Nat.sub_le _ _) (Nat.le_trans hh hr.small), ?_⟩
  · rw [List.length_take, List.length_drop]; omega
  · by_cases h0 : h = l
    · subst h0; exact .inl (by omega)
    · rcases hr.ptr with h1 | ⟨b, o, rfl⟩
      · omega
      · unfold cutp
        rw [if_neg (by omega)]
        exact .inr ⟨b, o + l * size, by simp [Addr.add_lit]⟩
  · intro j hj
    have e1 : adr (cutp p c l size) j = adr p (l * size + j) := by
      rcases hr.ptr with h1 | ⟨b, o, rfl⟩
      · subst h1; have : h = 0 := by omega
        subst this; simp at hj
      · unfold cutp
        rw [if_neg (by intro e; subst e; have : h = c := by omega
                       subst this; simp at hj)]
        simp [adr, Addr.add_lit, Nat.add_assoc]
    rw [e1, hr.cells _ (by omega)]
    simp only [List.getD_eq_getElem?_getD, List.getElem?_take, List.getElem?_drop]
    rw [if_pos hj]
theorem Rd.take {w : World} {size : Nat} {p : Option Addr} {n : Nat} {xs : List Value} (hr : Rd w size p n xs) {k : Nat} (hk : k ≤ n) : Rd w size p k (xs.take (k * size)) := by
  have hm : k * size ≤ n * size := Nat.mul_le_mul_right _ hk
  refine ⟨by rw [List.length_take, hr.len]; omega, ?_, Nat.le_trans hk hr.small, fun j hj => ?_⟩
  · rcases hr.ptr with h | h
    · exact .inl (by omega)
    · exact .inr h
  · rw [hr.cells j (by omega)]
    simp only [List.getD_eq_getElem?_getD, List.getElem?_take]
    rw [if_pos hj]
/-- a block that is known whole -/
def Blk (w : World) (g : Nat) (t : TypeId) (cs : Array Value) : Prop := w.heap[g]? = some (.cells cs t (0, 0))
section
variable {w w' : World} {g : Nat} {t : TypeId} {cs : Array Value}
theorem Blk.lt (h : Blk w g t cs) : g < w.heap.size := by
  rcases Nat.lt_or_ge g w.heap.size with hlt | hge
  · exact hlt
  · unfold Blk at h; rw [Array.getElem?_eq_none hge] at h; cases h
theorem Blk.cell (h : Blk w g t cs) (i : Nat) : w.cell? ⟨g, i, none⟩ = cs[i]? := cell_of_row w g i cs t (0, 0) h
theorem Blk.frozen (h : Blk w g t cs) (i : Nat) : w.frozen? ⟨g, i, none⟩ = false := by
  unfold Blk at h
  simp [World.frozen?, h]
theorem Blk.new (w : World) (t : TypeId) (cs : Array Value) : Blk (w.alloc (.cells cs t)) w.heap.size t cs := heap_alloc_new w _
theorem Blk.drewN (h : Blk w g t cs) (n : Nat) : Blk (w.drewN n) g t cs := h
theorem Blk.alloc (h : Blk w g t cs) (o : Obj) : Blk (w.alloc o) g t cs := (Below.heap_alloc w o g h.lt).trans h
theorem Blk.set_ (h : Blk w g t cs) (i : Nat) (u : Value) : Blk (w.setCell ⟨g, i, none⟩ u) g t (cs.setIfInBounds i u) := by
  unfold Blk at h ⊢
  simp [World.setCell, Array.getElem?_modify, h]
theorem Blk.far (h : Blk w g t cs) {p : Addr} (hp : g ≠ p.block) (u : Value) : Blk (w.setCell p u) g t cs := (Below.heap_setCell w p u g hp).trans h
theorem Blk.ext (h : Blk w g t cs) (hb : Ext w w') : Blk w' g t cs := (hb.block g h.lt).trans h
theorem Blk.grown {row : Option Nat} (h : Blk w g t cs) (hb : w.grownBy w' row) (hg : row ≠ some g) : Blk w' g t cs := (hb.block g h.lt (fun e => hg e.symm)).trans h
theorem own_blk_ne {base : Nat} {e : TypeId} {size n c : Nat} {q : Option Addr} {xs : List Value} (h : w.ownsRow base e size (.slice q n c) n xs) (hg : Blk w g t cs) (hne : e ≠ t) : blkOf q ≠ some g := by
  rcases h.2 with ⟨h1, _⟩ | ⟨g', cap, cur, h1, _, hh, _⟩
  · injection h1 with h1; subst h1; simp [blkOf]
  · injection h1 with h1; subst h1
    intro he
    have : g' = g := by simpa [blkOf] using he
    subst this
    unfold Blk at hg
    rw [hh] at hg
    injection hg with hg
    injection hg with _ ht
    exact hne ht
/-- two rows whose element types differ never share a block -/
theorem own_own_ne {base base2 : Nat} {e e2 : TypeId} {size n c size2 n2 c2 : Nat} {q q2 : Option Addr} {xs xs2 : List Value} (h : w.ownsRow base e size (.slice q n c) n xs) (h2 : w.ownsRow base2 e2 size2 (.slice q2 n2 c2) n2 xs2) (hne : e ≠ e2) :
    blkOf q2 = none ∨ blkOf q2 ≠ blkOf q := by
  rcases h2.2 with ⟨h1, _⟩ | ⟨g', cap, cur, h1, _, hh, _⟩
  · injection h1 with h1; subst h1; exact .inl rfl
  · injection h1 with h1; subst h1
    right
    intro he
    exact own_blk_ne (g := g') (t := e2) (cs := cur) h hh hne (by rw [← he]; rfl)
theorem own_grown {base : Nat} {e : TypeId} {size n c : Nat} {q : Option Addr} {xs : List Value} (h : w.ownsRow base e size (.slice q n c) n xs) {row : Option Nat} (hg : w.grownBy w' row) (hne : blkOf q = none ∨ blkOf q ≠ row) : w'.ownsRow base e size (.slice q n c) n xs :=
  h.kept hg (by rw [ownBlock_slice]; exact hne)
theorem own_cap {base : Nat} {e : TypeId} {size n c : Nat} {q : Option Addr} {xs : List Value} (h : w.ownsRow base e size (.slice q n c) n xs) : n ≤ c := by
  obtain ⟨p, c', h1, _, h2⟩ := own_form h
  injection h1 with _ _ h3
  omega
/-- what an append onto a row of its own (its one new element laid first) keeps -/
theorem Blk.kept {base : Nat} {e : TypeId} {size n c : Nat} {q : Option Addr} {xs : List Value} (hb : Blk w g t cs) (ho : w.ownsRow base e size (.slice q n c) n xs) (hne : e ≠ t) {o : Obj} (hg : (w.alloc o).grownBy w' (blkOf q)) : Blk w' g t cs :=
  (hb.alloc o).grown hg (own_blk_ne (ho.alloc o) (hb.alloc o) hne)
theorem own_kept {base base2 : Nat} {e e2 : TypeId} {size n c size2 n2 c2 : Nat} {q q2 : Option Addr} {xs xs2 : List Value} (h2 : w.ownsRow base2 e2 size2 (.slice q2 n2 c2) n2 xs2) (h : w.ownsRow base e size (.slice q n c) n xs) (hne : e ≠ e2) {o : Obj} (hg : (w.alloc o).grownBy w' (blkOf q)) :
    w'.ownsRow base2 e2 size2 (.slice q2 n2 c2) n2 xs2 :=
  own_grown (h2.alloc o) hg (own_own_ne (h.alloc o) (h2.alloc o) hne)
/-- a store into a box that is known whole keeps an owned row of another element type -/
theorem own_set {base : Nat} {e : TypeId} {size n c : Nat} {q : Option Addr} {xs : List Value} (h : w.ownsRow base e size (.slice q n c) n xs) (hg : Blk w g t cs) (hne : e ≠ t) (i : Nat) (u : Value) : (w.setCell ⟨g, i, none⟩ u).ownsRow base e size (.slice q n c) n xs := by
  have hb := own_blk_ne h hg hne
  obtain ⟨h1, h2⟩ := h
  refine ⟨h1, ?_⟩
  rcases h2 with h2 | ⟨g', cap, cur, hv, hgg, hh, r⟩
  · exact Or.inl h2
  · refine Or.inr ⟨g', cap, cur, hv, hgg, ?_, r⟩
    rw [Below.heap_setCell _ _ _ _ ?_]
    · exact hh
    · injection hv with hv
      subst hv
      intro e
      exact hb (by simp only [blkOf, Option.map_some]; rw [e])
end

theorem alloc3 (w : World) (o1 o2 o3 : Obj) : (((w.alloc o1).alloc o2).alloc o3).heap[w.heap.size]? = some o1 ∧ (((w.alloc o1).alloc o2).alloc o3).heap[w.heap.size + 1]? = some o2 ∧
    (((w.alloc o1).alloc o2).alloc o3).heap[w.heap.size + 1 + 1]? = some o3 ∧ Ext w (((w.alloc o1).alloc o2).alloc o3) := by
  refine ⟨?_, ?_, ?_, (((Below.refl _ _).alloc (Nat.le_refl _) _).alloc (by simp) _).alloc (by simp; omega) _⟩
  · rw [Below.heap_alloc _ _ _ (by simp; omega), Below.heap_alloc _ _ _ (by simp), heap_alloc_new]
  · have := heap_alloc_new (w.alloc o1) o2
    rw [World.size_alloc] at this
    rw [Below.heap_alloc _ _ _ (by simp), this]
  · have := heap_alloc_new ((w.alloc o1).alloc o2) o3
    rwa [World.size_alloc, World.size_alloc] at this
theorem alloc2 (w : World) (o1 o2 : Obj) : ((w.alloc o1).alloc o2).heap[w.heap.size]? = some o1 ∧ ((w.alloc o1).alloc o2).heap[w.heap.size + 1]? = some o2 ∧ Ext w ((w.alloc o1).alloc o2) := by
  refine ⟨?_, ?_, ((Below.refl _ _).alloc (Nat.le_refl _) _).alloc (by simp) _⟩
  · rw [Below.heap_alloc _ _ _ (by simp), heap_alloc_new]
  · have := heap_alloc_new (w.alloc o1) o2
    rwa [World.size_alloc] at this
theorem own_fresh {w : World} {base : Nat} {e : TypeId} {size : Nat} {q : Option Addr} {n c : Nat} {xs : List Value} (h : w.ownsRow base e size (.slice q n c) n xs) : n = 0 ∨ base ≤ (adr q 0).block := by
  rcases h.2 with ⟨_, h2⟩ | ⟨g, cap, cur, h1, hg, _⟩
  · exact .inl h2
  · injection h1 with h1; subst h1; exact .inr hg
theorem Rd.set_ {w : World} {size : Nat} {p : Option Addr} {n : Nat} {xs : List Value} (h : Rd w size p n xs) {g : Nat} (hg : 0 < n → (adr p 0).block ≠ g) (i : Nat) (u : Value) : Rd (w.setCell ⟨g, i, none⟩ u) size p n xs :=
  ⟨h.len, h.ptr, h.small, fun j hj => by
    have h0 : 0 < n := by
      rcases Nat.eq_zero_or_pos n with h0 | h0
      · subst h0; simp at hj
      · exact h0
    rw [World.cell?_setCell_other w ⟨g, i, none⟩ (adr p j) u (fun e => hg h0 (by rw [← adr_block p j, ← e]))]
    exact h.cells j hj⟩
theorem cellnew0 (w : World) (a : Value) (l : List Value) (t : TypeId) : (w.alloc (.cells (a :: l).toArray t)).cell? ⟨w.heap.size, 0, none⟩ = some a := by simp
theorem cellnew1 (w : World) (a b : Value) (l : List Value) (t : TypeId) : (w.alloc (.cells (a :: b :: l).toArray t)).cell? ⟨w.heap.size, 1, none⟩ = some b := by simp
theorem encE_take (l : List (Int × Int)) (k : Nat) : (encE l).take (k * 2) = encE (l.take k) := by
  induction l generalizing k with
  | nil => simp [encE]
  | cons a l ih =>
    cases k with
    | zero => simp [encE]
    | succ k =>
      have := ih k
      simp only [encE, List.flatMap_cons, List.take_succ_cons] at this ⊢
      rw [← this, show (k + 1) * 2 = k * 2 + 1 + 1 from by omega]; rfl
theorem encE_drop (l : List (Int × Int)) (k : Nat) : (encE l).drop (k * 2) = encE (l.drop k) := by
  induction l generalizing k with
  | nil => simp [encE]
  | cons a l ih =>
    cases k with
    | zero => simp [encE]
    | succ k =>
      have := ih k
      simp only [encE, List.flatMap_cons, List.drop_succ_cons] at this ⊢
      rw [← this, show (k + 1) * 2 = k * 2 + 1 + 1 from by omega]; rfl
theorem encE_append (l m : List (Int × Int)) : encE (l ++ m) = encE l ++ encE m := by simp [encE]
theorem Rd.one2 (w : World) (t : TypeId) (a b : Int) : Rd (w.alloc (.cells #[.int .i64 a, .int .i64 b] t)) 2 (some ⟨w.heap.size, 0, none⟩) 1 (encE [(a, b)]) := by
  refine ⟨rfl, .inr ⟨_, _, rfl⟩, by omega, fun j hj => ?_⟩
  rw [adr_some, Nat.zero_add]
  have : j = 0 ∨ j = 1 := by omega
  rcases this with rfl | rfl <;> simp [encE]
theorem encS_take (l : List ByteArray) (k : Nat) : (encS l).take (k * 1) = encS (l.take k) := by simp [encS, List.map_take]
theorem encS_drop (l : List ByteArray) (k : Nat) : (encS l).drop (k * 1) = encS (l.drop k) := by simp [encS, List.map_drop]
theorem encS_append (l m : List ByteArray) : encS (l ++ m) = encS l ++ encS m := by simp [encS]
theorem Rd.oneS (w : World) (t : TypeId) (a : ByteArray) : Rd (w.alloc (.cells #[.string a] t)) 1 (some ⟨w.heap.size, 0, none⟩) 1 (encS [a]) := by
  refine ⟨rfl, .inr ⟨_, _, rfl⟩, by omega, fun j hj => ?_⟩
  rw [adr_some, Nat.zero_add]
  have : j = 0 := by omega
  subst this; simp [encS]
theorem own_base {w : World} {base b : Nat} {e : TypeId} {size : Nat} {v : Value} {n : Nat} {xs : List Value} (h : w.ownsRow base e size v n xs) (hb : b ≤ base) : w.ownsRow b e size v n xs := by
  refine ⟨h.1, ?_⟩
  rcases h.2 with h2 | ⟨g, cap, cur, hv, hg, r⟩
  · exact .inl h2
  · exact .inr ⟨g, cap, cur, hv, Nat.le_trans hb hg, r⟩
theorem Rd.oneH (w : World) (t : TypeId) (p : Option Addr) (m d : Nat) : Rd (w.alloc (.cells #[.slice p m d] t)) 1 (some ⟨w.heap.size, 0, none⟩) 1 [.slice p m d] := by
  refine ⟨rfl, .inr ⟨_, _, rfl⟩, by omega, fun j hj => ?_⟩
  rw [adr_some, Nat.zero_add]
  have : j = 0 := by omega
  subst this; simp
theorem one_slice (p : Option Addr) (m d : Nat) : ∀ u ∈ [Value.slice p m d], u.oneCell' = true := by intro u hu; simp at hu; subst hu; rfl
/-- texts: less, byte by byte; equality as the walk writes it -/
def sLess (a b : ByteArray) : Bool := Op.bytesLess a.toList b.toList
theorem str_ext {a b : ByteArray} (h : a.toList = b.toList) : a = b := by
  rw [ByteArray.toList_eq, ByteArray.toList_eq] at h
  exact ByteArray.ext (Array.toList_inj.1 h)
theorem str_beq (a b : ByteArray) : (a.toList == b.toList) = decide (a = b) := by
  by_cases h : a = b
  · subst h; simp
  · simp only [h, decide_false]; rw [beq_eq_false_iff_ne]; exact fun e => h (str_ext e)
end Go.Proofs.Ytcjkechemjdboaa
