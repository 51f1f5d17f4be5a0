/- Texts, byte by byte: a strict order in which any two differ one way. -/
import Derived.Test.YtcjkechemjdboaaBase
import Derived.Lib.Bytealg
namespace Go.Proofs.Ytcjkechemjdboaa
theorem bl_irrefl : ∀ a : List UInt8, Op.bytesLess a a = false
  | [] => rfl
  | a :: x => by
    have := bl_irrefl x
    simp only [Op.bytesLess, this, Bool.and_false, Bool.or_false]
    simp
theorem bl_trans : ∀ a b c : List UInt8, Op.bytesLess a b = true → Op.bytesLess b c = true → Op.bytesLess a c = true
  | _, _, [], _, h => by cases ‹List UInt8› <;> simp [Op.bytesLess] at h
  | [], _, _ :: _, _, _ => rfl
  | a :: x, [], _ :: _, h, _ => by simp [Op.bytesLess] at h
  | a :: x, b :: y, c :: z, h, k => by
    simp only [Op.bytesLess, Bool.or_eq_true, Bool.and_eq_true, decide_eq_true_eq, beq_iff_eq] at h k ⊢
    rcases h with h | ⟨rfl, h⟩
    · rcases k with k | ⟨rfl, k⟩
      · left; rw [UInt8.lt_iff_toNat_lt] at *; omega
      · exact .inl h
    · rcases k with k | ⟨rfl, k⟩
      · exact .inl k
      · exact .inr ⟨rfl, bl_trans x y z h k⟩
theorem bl_tri : ∀ a b : List UInt8, Op.bytesLess a b = false → Op.bytesLess b a = false → a = b
  | [], [], _, _ => rfl
  | [], _ :: _, h, _ => by simp [Op.bytesLess] at h
  | _ :: _, [], _, h => by simp [Op.bytesLess] at h
  | a :: x, b :: y, h, k => by
    simp only [Op.bytesLess, Bool.or_eq_false_iff, Bool.and_eq_false_iff, decide_eq_false_iff_not, beq_eq_false_iff_ne] at h k
    have e : a = b := by
      apply UInt8.toNat_inj.1
      rw [UInt8.lt_iff_toNat_lt] at h k
      omega
    subst e
    have h2 := h.2
    have k2 := k.2
    simp at h2 k2
    rw [bl_tri x y h2 k2]
theorem cb_lt : ∀ a b : List UInt8, decide (Lib.compareBytes a b < 0) = Op.bytesLess a b
  | [], [] => rfl
  | [], _ :: _ => rfl
  | _ :: _, [] => rfl
  | a :: x, b :: y => by
    simp only [Lib.compareBytes, Op.bytesLess]
    have ih := cb_lt x y
    by_cases h : a < b
    · simp [h]
    · by_cases h2 : b < a
      · have h3 : (a == b) = false := by rw [beq_eq_false_iff_ne]; rintro rfl; rw [UInt8.lt_iff_toNat_lt] at h2; omega
        simp [h, h2, h3]
      · have h3 : a = b := by apply UInt8.toNat_inj.1; rw [UInt8.lt_iff_toNat_lt] at h h2; omega
        subst h3
        simp only [h, if_false, decide_false, Bool.false_or, beq_self_eq_true, Bool.true_and]
        exact ih
theorem sLess_irrefl (a : ByteArray) : sLess a a = false := bl_irrefl _
theorem sLess_trans (a b c : ByteArray) (h : sLess a b = true) (k : sLess b c = true) : sLess a c = true := bl_trans _ _ _ h k
theorem sLess_tri (a b : ByteArray) (h : sLess a b = false) (k : sLess b a = false) : a = b := str_ext (bl_tri _ _ h k)
end Go.Proofs.Ytcjkechemjdboaa
