/- The order of ids, and of their hex. No program in sight. -/
import Derived.Test.YtlpinbkgbnbkhaaI
import Derived.Lib.Bytealg
set_option linter.unusedVariables false
set_option linter.unusedSimpArgs false
namespace Go.Proofs.Ytlpinbkgbnbkhaa
open Go.RowKit

theorem cmp_turn : ∀ a b : List UInt8, Lib.compareBytes b a = -Lib.compareBytes a b
  | [], [] => rfl
  | [], _ :: _ => rfl
  | _ :: _, [] => rfl
  | x :: a, y :: b => by
    unfold Lib.compareBytes
    have ih := cmp_turn a b
    by_cases h1 : x < y
    · have h2 : ¬ y < x := by simp only [UInt8.lt_iff_toNat_lt] at *; omega
      rw [if_neg h2, if_pos h1, if_pos h1]; rfl
    · by_cases h2 : y < x
      · rw [if_pos h2, if_neg h1, if_pos h2]
      · rw [if_neg h2, if_neg h1, if_neg h1, if_neg h2]; exact ih
theorem cmp_zero : ∀ a b : List UInt8, Lib.compareBytes a b = 0 ↔ a = b
  | [], [] => by simp [Lib.compareBytes]
  | [], _ :: _ => by simp [Lib.compareBytes]
  | _ :: _, [] => by simp [Lib.compareBytes]
  | x :: a, y :: b => by
    unfold Lib.compareBytes
    have ih := cmp_zero a b
    by_cases h1 : x < y
    · rw [if_pos h1]
      have : x ≠ y := by rintro rfl; exact UInt8.lt_irrefl _ h1
      simp [this]
    · by_cases h2 : y < x
      · rw [if_neg h1, if_pos h2]
        have : x ≠ y := by rintro rfl; exact UInt8.lt_irrefl _ h2
        simp [this]
      · rw [if_neg h1, if_neg h2]
        have : x = y := by apply UInt8.toNat_inj.1; simp only [UInt8.lt_iff_toNat_lt] at *; omega
        simp [this, ih]
theorem cmp_trans : ∀ a b c : List UInt8, Lib.compareBytes a b ≤ 0 → Lib.compareBytes b c ≤ 0 → Lib.compareBytes a c ≤ 0
  | [], _, [], _, _ => by simp [Lib.compareBytes]
  | [], _, _ :: _, _, _ => by simp [Lib.compareBytes]
  | _ :: _, [], _, h, _ => by simp [Lib.compareBytes] at h
  | _ :: _, _ :: _, [], _, h => by simp [Lib.compareBytes] at h
  | x :: a, y :: b, z :: c, h1, h2 => by
    unfold Lib.compareBytes at h1 h2 ⊢
    have ih := cmp_trans a b c
    by_cases e1 : x < z
    · rw [if_pos e1]; decide
    · rw [if_neg e1]
      by_cases e2 : z < x
      · rw [if_pos e2]
        exfalso
        by_cases f1 : x < y
        · by_cases g1 : y < z
          · simp only [UInt8.lt_iff_toNat_lt] at *; omega
          · rw [if_neg g1] at h2
            by_cases g2 : z < y
            · rw [if_pos g2] at h2; omega
            · simp only [UInt8.lt_iff_toNat_lt] at *; omega
        · rw [if_neg f1] at h1
          by_cases f2 : y < x
          · rw [if_pos f2] at h1; omega
          · by_cases g1 : y < z
            · simp only [UInt8.lt_iff_toNat_lt] at *; omega
            · rw [if_neg g1] at h2
              by_cases g2 : z < y
              · rw [if_pos g2] at h2; omega
              · simp only [UInt8.lt_iff_toNat_lt] at *; omega
      · rw [if_neg e2]
        by_cases f1 : x < y
        · have g1 : ¬ y < z := by simp only [UInt8.lt_iff_toNat_lt] at *; omega
          have g2 : z < y := by simp only [UInt8.lt_iff_toNat_lt] at *; omega
          rw [if_neg g1, if_pos g2] at h2; omega
        · rw [if_neg f1] at h1
          by_cases f2 : y < x
          · rw [if_pos f2] at h1; omega
          · rw [if_neg f2] at h1
            have g1 : ¬ y < z := by simp only [UInt8.lt_iff_toNat_lt] at *; omega
            have g2 : ¬ z < y := by simp only [UInt8.lt_iff_toNat_lt] at *; omega
            rw [if_neg g1, if_neg g2] at h2
            exact ih h1 h2

theorem dig_lt : ∀ m n : Fin 16, (dig m.val < dig n.val ↔ m.val < n.val) ∧ (dig m.val = dig n.val → m.val = n.val) := by decide +kernel
theorem less_hex : ∀ a b : List UInt8, a.length = b.length → Op.bytesLess (hexOf a) (hexOf b) = decide (Lib.compareBytes a b < 0)
  | [], [], _ => by simp [hexOf, Op.bytesLess, Lib.compareBytes]
  | [], _ :: _, h => by simp at h
  | _ :: _, [], h => by simp at h
  | x :: a, y :: b, h => by
    have ih := less_hex a b (by simpa using h)
    have hx := x.toNat_lt
    have hy := y.toNat_lt
    obtain ⟨p1, p2⟩ := dig_lt ⟨x.toNat / 16, by omega⟩ ⟨y.toNat / 16, by omega⟩
    obtain ⟨p3, p4⟩ := dig_lt ⟨y.toNat / 16, by omega⟩ ⟨x.toNat / 16, by omega⟩
    obtain ⟨q1, q2⟩ := dig_lt ⟨x.toNat % 16, by omega⟩ ⟨y.toNat % 16, by omega⟩
    obtain ⟨q3, q4⟩ := dig_lt ⟨y.toNat % 16, by omega⟩ ⟨x.toNat % 16, by omega⟩
    have e : hexOf (x :: a) = dig (x.toNat / 16) :: dig (x.toNat % 16) :: hexOf a := rfl
    have e' : hexOf (y :: b) = dig (y.toNat / 16) :: dig (y.toNat % 16) :: hexOf b := rfl
    rw [e, e']
    unfold Op.bytesLess
    unfold Op.bytesLess
    unfold Lib.compareBytes
    rw [ih]
    simp only at p1 p2 p3 p4 q1 q2 q3 q4
    by_cases h1 : x < y
    · rw [if_pos h1]
      have h1' : x.toNat < y.toNat := UInt8.lt_iff_toNat_lt.1 h1
      by_cases k : x.toNat / 16 < y.toNat / 16
      · have := p1.2 k
        simp [this]
      · have k2 : x.toNat / 16 = y.toNat / 16 := by omega
        have k3 := q1.2 (by omega)
        simp [k2, k3]
    · rw [if_neg h1]
      by_cases h2 : y < x
      · rw [if_pos h2]
        have h2' : y.toNat < x.toNat := UInt8.lt_iff_toNat_lt.1 h2
        have k1 : ¬ dig (x.toNat / 16) < dig (y.toNat / 16) := fun h => by have := p1.1 h; omega
        by_cases k : x.toNat / 16 = y.toNat / 16
        · have k3 : ¬ dig (x.toNat % 16) < dig (y.toNat % 16) := fun h => by have := q1.1 h; omega
          have k4 : ¬ dig (x.toNat % 16) = dig (y.toNat % 16) := fun h => by have := q2 h; omega
          simp [k1, k3, k4]
        · have k5 : ¬ dig (x.toNat / 16) = dig (y.toNat / 16) := fun h => by have := p2 h; omega
          simp [k1, k5]
      · rw [if_neg h2]
        have hxy : x = y := by apply UInt8.toNat_inj.1; simp only [UInt8.lt_iff_toNat_lt] at *; omega
        subst hxy
        simp [UInt8.lt_irrefl]
end Go.Proofs.Ytlpinbkgbnbkhaa
