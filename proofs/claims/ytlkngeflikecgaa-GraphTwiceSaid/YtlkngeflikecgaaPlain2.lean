/- Plain laws of chapter 2: what is normal is normal again; turned twice. -/
import Derived.Test.YtlkngeflikecgaaPlain
import Derived.Test.YtlkngeflikecgaaRT
namespace Go.Proofs.Ytlkngeflikecgaa
open Go Go.RowKit
theorem rise_iff {α : Type} [Inhabited α] {lt : α → α → Bool} (h : STO lt) (l : List α) : riseB lt l = true ↔ Rises lt l := by
  constructor
  · intro hr
    unfold riseB at hr
    rw [List.all_eq_true] at hr
    have step : ∀ i, i + 1 < l.length → lt (nth l i) (nth l (i + 1)) = true := fun i hi => hr i (List.mem_range.2 (by omega))
    have key : ∀ d i, i + d + 1 < l.length → lt (nth l i) (nth l (i + d + 1)) = true := by
      intro d
      induction d with
      | zero => intro i hi; exact step i hi
      | succ d ih => intro i hi; exact h.trans _ _ _ (ih i (by omega)) (step (i + d + 1) (by omega))
    unfold Rises
    rw [List.pairwise_iff_getElem]
    intro i j hi hj hij
    have := key (j - i - 1) i (by omega)
    rw [show i + (j - i - 1) + 1 = j from by omega, nth_eq hi, nth_eq hj] at this
    exact this
  · intro hr
    unfold riseB
    rw [List.all_eq_true]
    intro i hi
    have hi2 := List.mem_range.1 hi
    unfold Rises at hr
    rw [List.pairwise_iff_getElem] at hr
    unfold riseAt
    rw [nth_eq (by omega), nth_eq (by omega)]
    exact hr i (i + 1) (by omega) (by omega) (by omega)
theorem putAll_eq_iff {α : Type} [DecidableEq α] {lt : α → α → Bool} (h : STO lt) (l : List α) : putAll lt l = l ↔ Rises lt l := by
  constructor
  · intro e; rw [← e]; exact putAll_rises h l
  · intro hr; exact rises_uniq h _ _ (putAll_rises h l) hr fun x => putAll_mem h l x
theorem putAll_idem {α : Type} [DecidableEq α] {lt : α → α → Bool} (h : STO lt) (l : List α) : putAll lt (putAll lt l) = putAll lt l := (putAll_eq_iff h _).2 (putAll_rises h l)
theorem riseB_putAll {α : Type} [DecidableEq α] [Inhabited α] {lt : α → α → Bool} (h : STO lt) (l : List α) : riseB lt (putAll lt l) = true := (rise_iff h _).2 (putAll_rises h l)
theorem edgeOk_swap (N : Int) (x : Int × Int) : edgeOk N (swapE x) = edgeOk N x := by
  unfold edgeOk swapE
  rw [Bool.eq_iff_iff]; simp; omega
theorem rowOk_putAll {l : List ByteArray} (h : rowOk l = true) : rowOk (putAll sLess l) = true := by
  unfold rowOk at h ⊢
  simp only [Bool.and_eq_true, List.all_eq_true, decide_eq_true_eq] at h ⊢
  exact ⟨fun x hx => h.1 x ((putAll_mem stoS l x).1 hx), Nat.le_trans (putAll_len sLess l) h.2⟩
theorem rowsOk_map {W : List (List ByteArray)} (h : W.all rowOk = true) : (W.map (putAll sLess)).all rowOk = true := by
  rw [List.all_eq_true] at h ⊢
  intro l hl
  obtain ⟨l', hl', rfl⟩ := List.mem_map.1 hl
  exact rowOk_putAll (h l' hl')
/-- a normal graph's check -/
theorem check_norm {N : Int} {E F : List (Int × Int)} {W : List (List ByteArray)} (h : checkB N E W = true) (hl : F.length ≤ 2000) (hF : ∀ x ∈ F, edgeOk N x = true) : checkB N F (W.map (putAll sLess)) = true := by
  obtain ⟨h1, h2, h3, h4, h5, h6⟩ := checkB_parts h
  exact checkB_yes h1 h2 hl (by rw [List.length_map]; exact h4) (List.all_eq_true.2 hF) (rowsOk_map h6)
theorem check_swap {N : Int} {E : List (Int × Int)} {W : List (List ByteArray)} : checkB N (E.map swapE) W = checkB N E W := by
  have : (E.map swapE).all (edgeOk N) = E.all (edgeOk N) := by
    rw [Bool.eq_iff_iff, List.all_eq_true, List.all_eq_true]
    constructor
    · intro h x hx; rw [← edgeOk_swap]; exact h _ (List.mem_map_of_mem hx)
    · intro h x hx; obtain ⟨y, hy, rfl⟩ := List.mem_map.1 hx; rw [edgeOk_swap]; exact h y hy
  unfold checkB
  rw [this, List.length_map]
theorem swapE_swapE (x : Int × Int) : swapE (swapE x) = x := rfl
theorem map_putAll_idem (W : List (List ByteArray)) : (W.map (putAll sLess)).map (putAll sLess) = W.map (putAll sLess) := by
  rw [List.map_map]
  exact List.map_congr_left fun l _ => putAll_idem stoS l
/-- turned twice -/
theorem putAll_turn2 (E : List (Int × Int)) : putAll lessE ((putAll lessE (E.map swapE)).map swapE) = putAll lessE E := by
  refine rises_uniq stoE _ _ (putAll_rises stoE _) (putAll_rises stoE _) fun x => ?_
  rw [putAll_mem stoE, putAll_mem stoE]
  constructor
  · intro h
    obtain ⟨y, hy, rfl⟩ := List.mem_map.1 h
    rw [putAll_mem stoE] at hy
    obtain ⟨z, hz, rfl⟩ := List.mem_map.1 hy
    exact hz
  · intro h
    exact List.mem_map.2 ⟨swapE x, (putAll_mem stoE _ _).2 (List.mem_map_of_mem h), rfl⟩
theorem is_norm {N : Int} {E F : List (Int × Int)} {W : List (List ByteArray)} (h : checkB N E W = true) (hl : F.length ≤ 2000) (hF : ∀ x ∈ F, edgeOk N x = true) (hr : riseB lessE F = true) : isB N F (W.map (putAll sLess)) = true := by
  unfold isB
  rw [check_norm h hl hF, hr]
  simp only [Bool.and_self, Bool.true_and, List.all_eq_true]
  intro l hl
  obtain ⟨l', _, rfl⟩ := List.mem_map.1 hl
  exact riseB_putAll stoS l'
/-- a graph is normal just if it is the one that Normal makes -/
theorem is_same {N : Int} {E : List (Int × Int)} {W : List (List ByteArray)} (h : checkB N E W = true) : isB N E W = sameB N (putAll lessE E) (W.map (putAll sLess)) N E W := by
  unfold isB sameB
  rw [h, Bool.true_and, Bool.eq_iff_iff, Bool.and_eq_true, decide_eq_true_eq, rise_iff stoE, putAll_eq_iff stoE]
  simp only [true_and]
  refine and_congr_right fun _ => ?_
  rw [List.all_eq_true]
  constructor
  · intro hr
    conv => rhs; rw [← List.map_id W]
    exact List.map_congr_left fun l hl => (putAll_eq_iff stoS l).2 ((rise_iff stoS l).1 (hr l hl))
  · intro e l hl
    rw [rise_iff stoS, ← putAll_eq_iff stoS]
    have h2 : ∀ l ∈ W, putAll sLess l = id l := List.map_inj_left.1 (e.trans (List.map_id W).symm)
    exact h2 l hl
theorem szW_map {W : List (List ByteArray)} (h : SzW W) : SzW (W.map (putAll sLess)) := by
  intro l hl s hs
  obtain ⟨l', hl', rfl⟩ := List.mem_map.1 hl
  exact h l' hl' s ((putAll_mem stoS l' s).1 hs)
/-- all that the law GraphTwice asks of a graph that may be -/
structure TwiceF (N : Int) (E : List (Int × Int)) (W : List (List ByteArray)) (A C : List (Int × Int)) (V : List (List ByteArray)) : Prop where
  n1 : normN N E W = N ∧ normE N E W = A ∧ normW N E W = V ∧ normC N E W = 0
  n2 : normN N A V = N ∧ normE N A V = A ∧ normW N A V = V ∧ normC N A V = 0
  n3 : normN N (E.map swapE) W = N ∧ normE N (E.map swapE) W = C ∧ normW N (E.map swapE) W = V ∧ normC N (E.map swapE) W = 0
  n4 : normN N (C.map swapE) V = N ∧ normE N (C.map swapE) V = A ∧ normW N (C.map swapE) V = V ∧ normC N (C.map swapE) V = 0
  i1 : isB N A V = true
  i2 : isB N C V = true
  i3 : isB N E W = sameB N A V N E W
  lA : A.length ≤ 2000
  lC : C.length ≤ 2000
  lV : V.length ≤ 200
  lV2 : ∀ l ∈ V, l.length ≤ 8
theorem norm_of {N : Int} {E A : List (Int × Int)} {W V : List (List ByteArray)} (hc : checkB N E W = true) (hA : putAll lessE E = A) (hV : W.map (putAll sLess) = V) : normN N E W = N ∧ normE N E W = A ∧ normW N E W = V ∧ normC N E W = 0 := by
  unfold normN normE normW normC
  rw [hc, hA, hV]
  exact ⟨rfl, rfl, rfl, rfl⟩
theorem twice_facts {N : Int} {E : List (Int × Int)} {W : List (List ByteArray)} (hc : checkB N E W = true) : TwiceF N E W (putAll lessE E) (putAll lessE (E.map swapE)) (W.map (putAll sLess)) := by
  obtain ⟨h1, h2, h3, h4, h5, h6⟩ := checkB_parts hc
  have hA : ∀ x ∈ putAll lessE E, edgeOk N x = true := fun x hx => List.all_eq_true.1 h5 x ((putAll_mem stoE E x).1 hx)
  have lA : (putAll lessE E).length ≤ 2000 := Nat.le_trans (putAll_len lessE E) h3
  have hcs : checkB N (E.map swapE) W = true := by rw [check_swap]; exact hc
  have hC : ∀ x ∈ putAll lessE (E.map swapE), edgeOk N x = true := fun x hx => List.all_eq_true.1 (checkB_parts hcs).2.2.2.2.1 x ((putAll_mem stoE _ x).1 hx)
  have lC : (putAll lessE (E.map swapE)).length ≤ 2000 := Nat.le_trans (putAll_len lessE _) (by rw [List.length_map]; exact h3)
  refine ⟨norm_of hc rfl rfl, norm_of (check_norm hc lA hA) (putAll_idem stoE _) (map_putAll_idem W), norm_of hcs rfl rfl, norm_of (by rw [check_swap]; exact check_norm hc lC hC) (putAll_turn2 E) (map_putAll_idem W), is_norm hc lA hA (riseB_putAll stoE _), is_norm hc lC hC (riseB_putAll stoE _), is_same hc, lA, lC, by rw [List.length_map]; omega, ?_⟩
  intro l hl
  obtain ⟨l', hl', rfl⟩ := List.mem_map.1 hl
  exact Nat.le_trans (putAll_len sLess l') (rowOk_len h6 l' hl')
end Go.Proofs.Ytlkngeflikecgaa
