import Derived.Test.YtcjkechemjdboaaG5
namespace Go.Proofs.Ytcjkechemjdboaa
open Go Go.RowKit Go.Shelf Go.Lib Go.Sort
theorem setMany_list (xs Z : List Value) (o : Nat) (h : o + Z.length ≤ xs.length) : setMany xs.toArray o Z = (xs.take o ++ Z ++ xs.drop (o + Z.length)).toArray := by
  apply ext_get!
  · simp; omega
  · intro t ht
    have ht' : t < xs.length := by simpa using ht
    rw [get_setMany _ _ _ _ (by simpa using ht)]
    have hlen : (xs.take o ++ Z ++ xs.drop (o + Z.length)).length = xs.length := by simp; omega
    rw [getElem!_pos (xs.take o ++ Z ++ xs.drop (o + Z.length)).toArray t (by simp only [List.size_toArray]; omega)]
    simp only [List.getElem_toArray]
    by_cases h1 : o ≤ t ∧ t < o + Z.length
    · rw [if_pos h1, List.getElem_append_left (by simp; omega), List.getElem_append_right (by simp; omega)]
      rw [getElem!_pos Z _ (by omega)]
      congr 1
      simp; omega
    · rw [if_neg h1, getElem!_pos xs.toArray t (by simpa using ht')]
      simp only [List.getElem_toArray]
      by_cases h2 : t < o
      · rw [List.getElem_append_left (by simp; omega), List.getElem_append_left (by simp; omega)]
        simp
      · rw [List.getElem_append_right (by simp; omega)]
        simp only [List.getElem_drop]
        congr 1
        simp; omega
theorem own_holds {w : World} {base : Nat} {e : TypeId} {size n c g : Nat} {xs : List Value} (ho : w.ownsRow base e size (.slice (some ⟨g, 0, none⟩) n c) n xs) (hs : n ≤ 1000000) : Holds id w g 0 xs.toArray := by
  intro j hj
  have r := Rd.of_own ho (by omega)
  have hl := r.len
  have hc := r.cells j (by simp at hj; omega)
  rw [adr_some] at hc
  refine ⟨?_, own_free ho _⟩
  rw [hc, getElem!_pos _ j hj, List.getD_eq_getElem?_getD, List.getElem?_eq_getElem (by simpa using hj)]; rfl
theorem own_setCells {w : World} {base : Nat} {e : TypeId} {size n c g : Nat} {xs : List Value} (ho : w.ownsRow base e size (.slice (some ⟨g, 0, none⟩) n c) n xs) (hs : n ≤ 1000000) (o : Nat) (Z : List Value) (h : o + Z.length ≤ n * size) :
    (w.setCells g o Z).ownsRow base e size (.slice (some ⟨g, 0, none⟩) n c) n (xs.take o ++ Z ++ xs.drop (o + Z.length)) ∧ w.grownBy (w.setCells g o Z) (some g) := by
  have hl := ho.1
  have h1 := putRow_self id w g 0 xs.toArray (own_holds ho hs)
  have h2 := setCells_putRow w g 0 Z o xs.toArray (by simp; omega)
  rw [h1, Nat.zero_add, setMany_list xs Z o (by omega)] at h2
  have h3 := own_put ho (ys := xs.take o ++ Z ++ xs.drop (o + Z.length)) (by simp; omega) 0 #[]
  rw [grow_empty] at h3
  rw [h2]
  exact h3
theorem encE_set (l : List (Int × Int)) (k : Nat) (x : Int × Int) (h : k < l.length) : (encE l).take (k * 2) ++ [.int .i64 x.1, .int .i64 x.2] ++ (encE l).drop (k * 2 + 2) = encE (l.set k x) := by
  rw [encE_take, show k * 2 + 2 = (k + 1) * 2 from by omega, encE_drop, List.set_eq_take_append_cons_drop, if_pos h]
  simp [encE]
theorem run_clear_E (w : World) (g o n c : Nat) (hn : 0 < n) (hc : ∀ j, j < n * 2 → (w.cell? ⟨g, o + j, none⟩).isSome = true) (hf : ∀ j, j < n * 2 → w.frozen? ⟨g, o + j, none⟩ = false) (ty : TypeId) :
    (Builtin.clear_ #[22] ty #[.slice (some ⟨g, o, none⟩) n c]).run Try.prog w = .ok (.tuple #[]) (w.setCells g o (Builtin.zeroCells #[.int .i64 0, .int .i64 0] n).toList) := by
  have hv : ∀ w, (zeroValue 71).run Try.prog w = .ok (.agg #[.int .i64 0, .int .i64 0]) w := fun w => by kernel_rfl
  have hsz : (Builtin.zeroCells #[.int .i64 0, .int .i64 0] n).toList.length = n * 2 := by simp [Builtin.zeroCells]
  have h1 : ∀ v ∈ (Builtin.zeroCells #[.int .i64 0, .int .i64 0] n).toList, v.oneCell' = true := by
    intro v hv
    simp only [Builtin.zeroCells, Array.toList_map, List.mem_map] at hv
    obtain ⟨i, _, rfl⟩ := hv
    rcases Nat.mod_two_eq_zero_or_one i with h | h <;> simp [h, Value.oneCell']
  have hst := run_storeCells_cells (P := Try.prog) g o (Builtin.zeroCells #[.int .i64 0, .int .i64 0] n).toList 0 w (by rw [hsz]; simpa using hc) (by rw [hsz]; simpa using hf) h1
  simp only [Nat.add_zero] at hst
  obtain ⟨m, rfl⟩ : ∃ m, n = m + 1 := ⟨n - 1, by omega⟩
  simp only [Builtin.clear_, Try.underlying22, run_underlying Try.underlying22]
  simp [run_underlying Try.underlying22, hv, Value.cells, hst]
end Go.Proofs.Ytcjkechemjdboaa
