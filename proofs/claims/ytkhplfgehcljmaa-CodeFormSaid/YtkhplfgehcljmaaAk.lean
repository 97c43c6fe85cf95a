/- What a Reader took, a Writer writes as the same bytes: plain. No program in sight. -/
import Derived.Test.YtkhplfgehcljmaaAf
set_option linter.unusedVariables false
namespace Go.Proofs.Ytkhplfgehcljmaa

/-- The Reader is spoilt, at a place of the text. -/
def Spoilt (d : List UInt8) (s : RS) : Prop := s.code ≠ 0 ∧ ∃ p : Nat, s.place = p ∧ p ≤ d.length
/-- The Reader took what a Writer writes as xs. -/
def Fed (d : List UInt8) (A : Nat) (s : RS) (xs : List UInt8) : Prop := ∃ A', s = ⟨0, 0, A'⟩ ∧ A' ≤ d.length ∧ d.take A ++ xs = d.take A'
theorem spoilt_of {d : List UInt8} {A : Nat} {c : Int} (hA : A ≤ d.length) (hc : c ≠ 0) : Spoilt d ((⟨0, 0, A⟩ : RS).spoil c) := by
  rw [RS.spoil_ok rfl]
  exact ⟨hc, A, rfl, hA⟩
theorem Spoilt.left {d : List UInt8} {s : RS} (h : Spoilt d s) : rLeft d s = 0 := by rw [rLeft, if_neg h.1]
theorem form_num {d : List UInt8} {A : Nat} (hA : A ≤ d.length) : Spoilt d (rNumber d ⟨0, 0, A⟩).2 ∨ ((rNumber d ⟨0, 0, A⟩).1 ≤ 2147483647 ∧ Fed d A (rNumber d ⟨0, 0, A⟩).2 (numB (rNumber d ⟨0, 0, A⟩).1)) := by
  obtain ⟨v, n, c, hr⟩ : ∃ v n c, numP (d.drop A) = (v, n, c) := ⟨_, _, _, rfl⟩
  unfold rNumber
  simp only [if_true, hr]
  by_cases hc : c = 0
  · subst hc
    obtain ⟨h1, h2, h3⟩ := numP_back hr
    rw [List.length_drop] at h3
    right
    rw [if_pos rfl]
    exact ⟨h2, A + n, rfl, by omega, by simp only; rw [h1, List.take_add]⟩
  · left
    rw [if_neg hc]
    exact spoilt_of hA hc
theorem form_fix {d : List UInt8} {A : Nat} {k : Int} (hA : A ≤ d.length) : Spoilt d (rFixed d ⟨0, 0, A⟩ k).2 ∨ (isFix ((rFixed d ⟨0, 0, A⟩ k).1 : Nat) k = true ∧ (rFixed d ⟨0, 0, A⟩ k).1 < 4294967296 ∧ Fed d A (rFixed d ⟨0, 0, A⟩ k).2 (fixB (rFixed d ⟨0, 0, A⟩ k).1 k.toNat)) := by
  unfold rFixed
  simp only [if_true]
  by_cases h1 : k < 1 ∨ 4 < k
  · left; rw [if_pos h1]; exact spoilt_of hA (by decide)
  · rw [if_neg h1]
    by_cases h2 : d.length < A + k.toNat
    · left; rw [if_pos h2]; exact spoilt_of hA (by decide)
    · right
      rw [if_neg h2]
      obtain ⟨l, hl⟩ : ∃ l, (d.drop A).take k.toNat = l := ⟨_, rfl⟩
      have hll : l.length = k.toNat := by rw [← hl, List.length_take, List.length_drop]; omega
      have hlt := beVal_lt l.length l rfl
      have h4 : (256 : Nat) ^ l.length ≤ 256 ^ 4 := Nat.pow_le_pow_right (by omega) (by omega)
      have hb := fixB_beVal l
      rw [hll] at hb
      simp only [hl]
      refine ⟨?_, by omega, A + k.toNat, rfl, by omega, by rw [hb, ← hl, List.take_add]⟩
      have h5 : (2 : Int) ^ (8 * k.toNat) = ((256 ^ l.length : Nat) : Int) := by
        rw [hll, ← pow8]; push_cast; rfl
      simp only [isFix, decide_eq_true_eq]
      rw [h5]
      omega
theorem form_raw {d : List UInt8} {A : Nat} {n : Int} (hA : A ≤ d.length) : Spoilt d (rRaw d ⟨0, 0, A⟩ n).2 ∨ ((rRaw d ⟨0, 0, A⟩ n).1.length ≤ d.length ∧ Fed d A (rRaw d ⟨0, 0, A⟩ n).2 (rRaw d ⟨0, 0, A⟩ n).1) := by
  unfold rRaw
  simp only [if_true]
  by_cases h1 : n < 0
  · left; rw [if_pos h1]; exact spoilt_of hA (by decide)
  · rw [if_neg h1]
    by_cases h2 : d.length < A + n.toNat
    · left; rw [if_pos h2]; exact spoilt_of hA (by decide)
    · right
      rw [if_neg h2]
      exact ⟨by simp only [List.length_take, List.length_drop]; omega, A + n.toNat, rfl, by omega, by simp only; rw [List.take_add]⟩
theorem textC_zero {most left : Int} {r : Nat × Nat × Int} (h : textC most left r = 0) : r.2.2 = 0 ∧ (r.1 : Int) ≤ left - r.2.1 := by
  unfold textC at h
  split at h
  · split at h
    · omega
    · split at h
      · omega
      · exact ⟨by assumption, by omega⟩
  · exact absurd h (by assumption)
theorem form_text {d : List UInt8} {A : Nat} {n : Int} (hA : A ≤ d.length) : Spoilt d (rText d ⟨0, 0, A⟩ n).2 ∨ ((rText d ⟨0, 0, A⟩ n).1.length ≤ d.length ∧ Fed d A (rText d ⟨0, 0, A⟩ n).2 (textB (rText d ⟨0, 0, A⟩ n).1)) := by
  obtain ⟨v, m, c, hr⟩ : ∃ v m c, numP (d.drop A) = (v, m, c) := ⟨_, _, _, rfl⟩
  unfold rText
  simp only [if_true, hr]
  by_cases h1 : n < 0
  · left; rw [if_pos h1]; exact spoilt_of hA (by decide)
  · rw [if_neg h1]
    by_cases h2 : textC n ((d.length : Int) - A) (v, m, c) = 0
    · right
      rw [if_pos h2]
      obtain ⟨h3, h4⟩ := textC_zero h2
      simp only at h3 h4
      subst h3
      obtain ⟨h5, h6, h7⟩ := numP_back hr
      rw [List.length_drop] at h7
      have h8 : ((d.drop (A + m)).take v).length = v := by rw [List.length_take, List.length_drop]; omega
      refine ⟨by simp only; rw [h8]; omega, A + m + v, rfl, by omega, ?_⟩
      simp only
      rw [textB, h8, h5, ← List.append_assoc, ← List.take_add, ← List.take_add]
    · left; rw [if_neg h2]; exact spoilt_of hA h2
end Go.Proofs.Ytkhplfgehcljmaa
