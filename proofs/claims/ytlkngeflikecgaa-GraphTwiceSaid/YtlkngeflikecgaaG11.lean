/- The program's Normal by the plain law; Degrees. -/
import Derived.Test.YtlkngeflikecgaaG9
import Derived.Test.YtlkngeflikecgaaPlain
namespace Go.Proofs.Ytlkngeflikecgaa
open Go Go.RowKit Go.Shelf Go.Lib Go.Sort
theorem NormalG (N : Int) (pe : Option Addr) (ne ce : Nat) (pw : Option Addr) (nw cw : Nat) (E : List (Int × Int)) (hs : List Hd) (W : List (List ByteArray)) (w : World) (hE : Rd w 2 pe ne (encE E)) (hW : RdW w pw nw hs W) (hz : SzW W) :
    Calls Try.prog 10 #[.agg #[.int .i64 N, .slice pe ne ce, .slice pw nw cw]] w fun e w' => ∃ v, e = .returned (.tuple #[v, .int .i64 (normC N E W)]) ∧ GraphO w' w.heap.size v (normN N E W) (normE N E W) (normW N E W) ∧ Ext w w' := by
  refine (NormalG0 N pe ne ce pw nw cw E hs W w hE hW hz).mono ?_
  rintro e w' ⟨v, h1, h2, h3⟩
  refine ⟨v, h1, ?_, h3⟩
  unfold normN normE normW
  rw [← once_putAll stoE, show (putAll sLess : List ByteArray → _) = fun l => dedup (sortBy sLess l) from funext fun l => (once_putAll stoS l).symm]
  exact h2
theorem own_far {w : World} {base : Nat} {e : TypeId} {size n c : Nat} {q : Option Addr} {xs : List Value} (h : w.ownsRow base e size (.slice q n c) n xs) {b : Nat} (hb : b < base) (i : Nat) (u : Value) : (w.setCell ⟨b, i, none⟩ u).ownsRow base e size (.slice q n c) n xs := by
  refine ⟨h.1, ?_⟩
  rcases h.2 with h2 | ⟨g, cap, cur, h1, hg, hh, r⟩
  · exact .inl h2
  · exact .inr ⟨g, cap, cur, h1, hg, (Below.heap_setCell w ⟨b, i, none⟩ u g (by show g ≠ b; omega)).trans hh, r⟩
theorem GraphO.set {w : World} {base : Nat} {v : Value} {N : Int} {E : List (Int × Int)} {W : List (List ByteArray)} (h : GraphO w base v N E W) {b : Nat} (hb : b < base) (i : Nat) (u : Value) : GraphO (w.setCell ⟨b, i, none⟩ u) base v N E W := by
  obtain ⟨pe, ce, pw, cw, hs, h1, h2, h3⟩ := h
  exact ⟨pe, ce, pw, cw, hs, h1, own_far h2 hb i u, h3.hn, own_far h3.row hb i u, fun j hj => own_far (h3.each j hj) hb i u⟩
theorem GraphO.mono {w : World} {base b : Nat} {v : Value} {N : Int} {E : List (Int × Int)} {W : List (List ByteArray)} (h : GraphO w base v N E W) (hb : b ≤ base) : GraphO w b v N E W := by
  obtain ⟨pe, ce, pw, cw, hs, h1, h2, h3⟩ := h
  exact ⟨pe, ce, pw, cw, hs, h1, own_base h2 hb, h3.hn, own_base h3.row hb, fun j hj => own_base (h3.each j hj) hb⟩
/-- the counts of an edge list's places -/
def outN (E : List (Int × Int)) (v : Int) : Nat := E.countP fun x => x.1 == v
def inN (E : List (Int × Int)) (v : Int) : Nat := E.countP fun x => x.2 == v
def placeB (N : Int) (E : List (Int × Int)) (W : List (List ByteArray)) (v : Int) : Bool := checkB N E W && decide (0 ≤ v ∧ v < N)
def degO (N : Int) (E : List (Int × Int)) (W : List (List ByteArray)) (v : Int) : Int := if placeB N E W v then outN (putAll lessE E) v else 0
def degI (N : Int) (E : List (Int × Int)) (W : List (List ByteArray)) (v : Int) : Int := if placeB N E W v then inN (putAll lessE E) v else 0
theorem outN_step {E : List (Int × Int)} {v : Int} {k : Nat} (hk : k < E.length) : outN (E.take (k + 1)) v = outN (E.take k) v + if (nth E k).1 == v then 1 else 0 := by
  unfold outN; rw [take_succ_nth E k hk, List.countP_append, List.countP_singleton]
theorem inN_step {E : List (Int × Int)} {v : Int} {k : Nat} (hk : k < E.length) : inN (E.take (k + 1)) v = inN (E.take k) v + if (nth E k).2 == v then 1 else 0 := by
  unfold inN; rw [take_succ_nth E k hk, List.countP_append, List.countP_singleton]
theorem outN_le (E : List (Int × Int)) (v : Int) : outN E v ≤ E.length := List.countP_le_length
theorem inN_le (E : List (Int × Int)) (v : Int) : inN E v ≤ E.length := List.countP_le_length
set_option maxRecDepth 100000 in
set_option maxHeartbeats 1000000 in
theorem DegreesG_no (N : Int) (pe : Option Addr) (ne ce : Nat) (pw : Option Addr) (nw cw : Nat) (E : List (Int × Int)) (hs : List Hd) (W : List (List ByteArray)) (w : World) (v : Int) (hE : Rd w 2 pe ne (encE E)) (hW : RdW w pw nw hs W) (hz : SzW W) (hc : checkB N E W = false) :
    Calls Try.prog 20 #[.agg #[.int .i64 N, .slice pe ne ce, .slice pw nw cw], .int .i64 v] w fun e w' => e = .returned (.tuple #[.int .i64 (degO N E W v), .int .i64 (degI N E W v), .bool (placeB N E W v)]) ∧ Ext w w' := by
  unfold degO degI
  have hp : placeB N E W v = false := by unfold placeB; rw [hc]; rfl
  rw [hp]
  simp only [Bool.false_eq_true, if_false]
  have HN := Lib.hid (fun W1 (h : Ext w W1) => NormalG_no N pe ne ce pw nw cw E hs W W1 (hE.ext h) (hW.ext h) hz hc)
  have hx : Ext w (w.alloc (.cells #[.int .i64 N, .slice pe ne ce, .slice pw nw cw] 25)) := (Below.refl _ _).alloc (Nat.le_refl _) _
  clear hE hW hz hc hp
  go_enter Try.func20, Try.ntmps20
  go_wp2_with (go_at_call 10; go_must ((refine (HN.out _ hx).mono ?_; rintro e w1 ⟨rfl, hb1⟩; have B1 := Lib.hid (Ext.trans hx hb1); clear hb1)))
  exact bodyPost_ret (v := .tuple #[.int .i64 0, .int .i64 0, .bool false]) (by simp [results, Try.results20, go_sem]) rfl ⟨rfl, Ext.trans B1.out ((Below.refl _ _).alloc (Nat.le_refl _) _)⟩
set_option maxRecDepth 100000 in
set_option maxHeartbeats 4000000 in
theorem DegreesG (N : Int) (pe : Option Addr) (ne ce : Nat) (pw : Option Addr) (nw cw : Nat) (E : List (Int × Int)) (hs : List Hd) (W : List (List ByteArray)) (w : World) (v : Int) (hE : Rd w 2 pe ne (encE E)) (hW : RdW w pw nw hs W) (hz : SzW W) :
    Calls Try.prog 20 #[.agg #[.int .i64 N, .slice pe ne ce, .slice pw nw cw], .int .i64 v] w fun e w' => e = .returned (.tuple #[.int .i64 (degO N E W v), .int .i64 (degI N E W v), .bool (placeB N E W v)]) ∧ Ext w w' := by
  unfold degO degI
  have hl9 := putAll_len lessE E
  have hlE := hE.nE
  by_cases hc : checkB N E W = true
  · have hl8 : E.length ≤ 2000 := (checkB_parts hc).2.2.1
    have hcc : normC N E W = 0 := by unfold normC; rw [hc]; rfl
    have HN := Lib.hid (fun W1 (h : Ext w W1) => NormalG N pe ne ce pw nw cw E hs W W1 (hE.ext h) (hW.ext h) hz)
    have hnE : normE N E W = putAll lessE E := by unfold normE; rw [hc]; rfl
    rw [hcc, hnE] at HN
    have hp : placeB N E W v = decide (0 ≤ v ∧ v < N) := by unfold placeB; rw [hc]; rfl
    rw [hp]
    clear hE hW hz hc hcc hnE hp hlE
    generalize normN N E W = N2 at HN
    generalize normW N E W = W2 at HN
    generalize putAll lessE E = D at *
    have hx : Ext w (w.alloc (.cells #[.int .i64 N, .slice pe ne ce, .slice pw nw cw] 25)) := (Below.refl _ _).alloc (Nat.le_refl _) _
    have c0 : (w.alloc (.cells #[.int .i64 N, .slice pe ne ce, .slice pw nw cw] 25)).cell? ⟨w.heap.size, 0, none⟩ = some (.int .i64 N) := by simp
    have c1 : (w.alloc (.cells #[.int .i64 N, .slice pe ne ce, .slice pw nw cw] 25)).cell? ⟨w.heap.size, 1, none⟩ = some (.slice pe ne ce) := by simp
    have c2 : (w.alloc (.cells #[.int .i64 N, .slice pe ne ce, .slice pw nw cw] 25)).cell? ⟨w.heap.size, 2, none⟩ = some (.slice pw nw cw) := by simp
    by_cases hv : 0 ≤ v ∧ v < N
    · have hvd : decide (0 ≤ v ∧ v < N) = true := by simpa using hv
      rw [hvd]
      simp only [if_true]
      have HP := Lib.hid (fun W' => isPlaceG N pe ne ce pw nw cw v W')
      rw [hvd] at HP
      clear hv hvd
      go_enter Try.func20, Try.ntmps20
      go_wp2_with (first | (go_at_call 10; go_must ((refine (HN.out _ hx).mono ?_; rintro e w1 ⟨v', rfl, ⟨q, cq, qh, ch, hs', rfl, own, ow⟩, hb1⟩; have O1 := Lib.hid own; have B1 := Lib.hid (Ext.trans hx hb1); have y0 := hb1.cell c0; have y1 := hb1.cell c1; have y2 := hb1.cell c2; have zw : w.heap.size < w1.heap.size := World.block_lt_of_cell? w1 _ y0; clear own ow hb1))) | (go_at_call 32; have _t := O1; go_must ((refine (HP.out _).mono ?_; rintro e w2 ⟨rfl, hb2⟩; have B2 := Lib.hid (Ext.trans B1.out (Ext.trans ((Below.refl _ _).alloc (Nat.le_refl _) _) hb2)); have x0 := Ext.cell hb2 (cellnew0 _ _ _ _); have x1 := Ext.cell hb2 (cellnew1 _ _ _ _ _); have O2 := Lib.hid (hb2.own (O1.out.alloc _)); clear hb2))))
      have R2 := Lib.hid (Rd.of_own O2.out (by omega))
      have p9 := R2.out.ptr
      have n9 : D.length ≤ 2000 := by omega
      obtain ⟨wb, rfl⟩ : ∃ wb : World, wb = w2 := ⟨_, rfl⟩
      go_loopw [9, 10, 12, 29] (fun a b _ i wr => ∃ k : Nat, k ≤ D.length ∧ i = .int .i64 k ∧ a = .int .i64 (outN (D.take k) v) ∧ b = .int .i64 (inN (D.take k) v) ∧ Ext wb wr) (fun _ _ _ i _ => D.length - (intOf i).toNat)
      case atStart => exact ⟨0, Nat.zero_le _, rfl, rfl, rfl, Below.refl _ _⟩
      case round =>
        obtain ⟨k, hk, rfl, rfl, rfl, hb⟩ := hrel
        have HB := Lib.hid hb; clear hb
        by_cases hlt : k < D.length
        · have g1 := HB.out.cell (R2.out.cE hlt)
          have g2 := HB.out.cell (R2.out.cE2 hlt)
          have ho := Lib.hid (outN_step (v := v) hlt)
          have hi := Lib.hid (inN_step (v := v) hlt)
          have l1 := outN_le (D.take k) v
          have l2 := inN_le (D.take k) v
          have l3 : (D.take k).length ≤ k := List.length_take_le _ _
          by_cases h1 : ((nth D k).1 == v) = true <;> by_cases h2 : ((nth D k).2 == v) = true
          · go_wp2
            go_roundw
            case rel => exact ⟨k + 1, by omega, by go_num, by rw [ho.out, h1]; go_num, by rw [hi.out, h2]; go_num, HB.out.alloc _⟩
            case measure => simp [intOf]; omega
          · have h2' : ((nth D k).2 == v) = false := by simpa using h2
            clear h2
            go_wp2
            go_roundw
            case rel => exact ⟨k + 1, by omega, by go_num, by rw [ho.out, h1]; go_num, by rw [hi.out, h2']; rfl, HB.out.alloc _⟩
            case measure => simp [intOf]; omega
          · have h1' : ((nth D k).1 == v) = false := by simpa using h1
            clear h1
            go_wp2
            go_roundw
            case rel => exact ⟨k + 1, by omega, by go_num, by rw [ho.out, h1']; rfl, by rw [hi.out, h2]; go_num, HB.out.alloc _⟩
            case measure => simp [intOf]; omega
          · have h1' : ((nth D k).1 == v) = false := by simpa using h1
            have h2' : ((nth D k).2 == v) = false := by simpa using h2
            clear h1 h2
            go_wp2
            go_roundw
            case rel => exact ⟨k + 1, by omega, by go_num, by rw [ho.out, h1']; rfl, by rw [hi.out, h2']; rfl, HB.out.alloc _⟩
            case measure => simp [intOf]; omega
        · have hkn : k = D.length := by omega
          subst hkn
          go_wp2
          rw [List.take_length]
          exact bodyPost_ret (v := .tuple #[.int .i64 (outN D v), .int .i64 (inN D v), .bool true]) (by simp [results, Try.results20, go_sem]) rfl ⟨rfl, Ext.trans B2.out HB.out⟩
    · have hvd : decide (0 ≤ v ∧ v < N) = false := by simpa using hv
      rw [hvd]
      simp only [if_false, Bool.false_eq_true]
      have HP := Lib.hid (fun W' => isPlaceG N pe ne ce pw nw cw v W')
      rw [hvd] at HP
      clear hv hvd
      go_enter Try.func20, Try.ntmps20
      go_wp2_with (first | (go_at_call 10; go_must ((refine (HN.out _ hx).mono ?_; rintro e w1 ⟨v', rfl, ⟨q, cq, qh, ch, hs', rfl, own, ow⟩, hb1⟩; have O1 := Lib.hid own; have B1 := Lib.hid (Ext.trans hx hb1); have y0 := hb1.cell c0; have y1 := hb1.cell c1; have y2 := hb1.cell c2; have zw : w.heap.size < w1.heap.size := World.block_lt_of_cell? w1 _ y0; clear own ow hb1))) | (go_at_call 32; have _t := O1; go_must ((refine (HP.out _).mono ?_; rintro e w2 ⟨rfl, hb2⟩; have B2 := Lib.hid (Ext.trans B1.out (Ext.trans ((Below.refl _ _).alloc (Nat.le_refl _) _) hb2)); have x0 := Ext.cell hb2 (cellnew0 _ _ _ _); have x1 := Ext.cell hb2 (cellnew1 _ _ _ _ _); have O2 := Lib.hid (hb2.own (O1.out.alloc _)); clear hb2))))
      exact bodyPost_ret (v := .tuple #[.int .i64 0, .int .i64 0, .bool false]) (by simp [results, Try.results20, go_sem]) rfl ⟨rfl, B2.out⟩
  · exact DegreesG_no N pe ne ce pw nw cw E hs W w v hE hW hz (by simpa using hc)
end Go.Proofs.Ytlkngeflikecgaa
