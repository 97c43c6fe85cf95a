/- Parse: what a reader takes out of bytes, and what the document says. No program in sight. -/
import Derived.Test.YtjdkeabimcajlaaPs
import Derived.Test.YtjdkeabimcajlaaEn
set_option linter.unusedVariables false
set_option linter.unusedSimpArgs false
namespace Go.Proofs.Ytjdkeabimcajlaa
open Go.RowKit

def pad32 (xs : List UInt8) : List UInt8 := (xs ++ List.replicate 32 0).take 32
theorem pad32_len (xs : List UInt8) : (pad32 xs).length = 32 := by simp [pad32]
theorem pad32_eq {xs : List UInt8} (h : xs.length ≤ 32) : pad32 xs = xs ++ List.replicate (32 - xs.length) 0 := by
  rw [pad32, List.take_append, List.take_of_length_le h, List.take_replicate]; congr 2; omega
theorem pad32_full {xs : List UInt8} (h : xs.length = 32) : pad32 xs = xs := by rw [pad32_eq (by omega), h]; simp
/-- One result, as a reader takes it. -/
def takR (d : List UInt8) (s : RS) : Res × RS :=
  (⟨pad32 (rRaw d s 32).1, pad32 (rRaw d (rRaw d s 32).2 32).1, (rFixed d (rRaw d (rRaw d s 32).2 32).2 1).1, pad32_len _, pad32_len _⟩, (rFixed d (rRaw d (rRaw d s 32).2 32).2 1).2)
def manyR (d : List UInt8) (s : RS) : Nat → List Res × RS
  | 0 => ([], s)
  | k + 1 => ((manyR d s k).1 ++ [(takR d (manyR d s k).2).1], (takR d (manyR d s k).2).2)
theorem manyR_len (d : List UInt8) (s : RS) : ∀ k, (manyR d s k).1.length = k
  | 0 => rfl
  | k + 1 => by simp [manyR, manyR_len d s k]
def numR (d : List UInt8) : Nat × RS := rNumber d ⟨0, 0, 0⟩
/-- What Parse of the program takes. -/
def parO (d : List UInt8) : Option (List Res) :=
  if 32 < (numR d).1 then none else
    if (manyR d (numR d).2 (numR d).1).2.code ≠ 0 ∨ 0 < rLeft d (manyR d (numR d).2 (numR d).1).2 ∨ validR (manyR d (numR d).2 (numR d).1).1 = false then none else some (manyR d (numR d).2 (numR d).1).1

def byteAt (d : List UInt8) (i : Nat) : UInt8 := d.getD i 0
def resAt (d : List UInt8) (o : Nat) : Res := ⟨(List.range 32).map fun k => byteAt d (o + k), (List.range 32).map fun k => byteAt d (o + 32 + k), ((byteAt d (o + 64)).toNat : Nat), by simp, by simp⟩
def rowsOf (d : List UInt8) (k : Nat) : List Res := (List.range k).map fun i => resAt d (1 + 65 * i)
theorem rowsOf_succ (d : List UInt8) (k : Nat) : rowsOf d (k + 1) = rowsOf d k ++ [resAt d (1 + 65 * k)] := by simp [rowsOf, List.range_succ]
theorem rowsOf_len (d : List UInt8) (k : Nat) : (rowsOf d k).length = k := by simp [rowsOf]
def headN (d : List UInt8) : Nat := (byteAt d 0).toNat
/-- What the document's takes. -/
def tabO (d : List UInt8) : Option (List Res) :=
  if d.length ≠ 0 ∧ headN d ≤ 32 ∧ d.length = 1 + 65 * headN d ∧ validR (rowsOf d (headN d)) = true then some (rowsOf d (headN d)) else none

theorem take_at {d : List UInt8} {o n : Nat} (h : o + n ≤ d.length) : (d.drop o).take n = (List.range n).map fun k => byteAt d (o + k) := by
  apply List.ext_getElem
  · simp; omega
  · intro i h1 h2
    simp only [List.length_map, List.length_range] at h2
    simp [byteAt, List.getD_eq_getElem?_getD, List.getElem?_eq_getElem (show o + i < d.length by omega)]
theorem rRaw_yes {d : List UInt8} {p : Int} {o : Nat} (h : o + 32 ≤ d.length) : rRaw d ⟨0, p, o⟩ 32 = ((d.drop o).take 32, ⟨0, p, o + 32⟩) := by
  have e : (32 : Int).toNat = 32 := rfl
  rw [rRaw, if_pos rfl, if_neg (by omega), e, if_neg (by simp only; omega)]
theorem rRaw_no {d : List UInt8} {p : Int} {o : Nat} (h : ¬ o + 32 ≤ d.length) : rRaw d ⟨0, p, o⟩ 32 = ([], ⟨10, o, o⟩) := by
  have e : (32 : Int).toNat = 32 := rfl
  rw [rRaw, if_pos rfl, if_neg (by omega), e, if_pos (by simp only; omega), RS.spoil_ok rfl]
theorem rRaw_bad {d : List UInt8} {s : RS} (h : s.code ≠ 0) : rRaw d s 32 = ([], s) := by rw [rRaw, if_neg h]
theorem rFixed_yes {d : List UInt8} {p : Int} {o : Nat} (h : o + 1 ≤ d.length) : rFixed d ⟨0, p, o⟩ 1 = ((byteAt d o).toNat, ⟨0, p, o + 1⟩) := by
  have e : (1 : Int).toNat = 1 := rfl
  rw [rFixed, if_pos rfl, if_neg (by omega), e, if_neg (by simp only; omega), take_at h]
  simp [beVal]
theorem rFixed_no {d : List UInt8} {p : Int} {o : Nat} (h : ¬ o + 1 ≤ d.length) : rFixed d ⟨0, p, o⟩ 1 = (0, ⟨10, o, o⟩) := by
  have e : (1 : Int).toNat = 1 := rfl
  rw [rFixed, if_pos rfl, if_neg (by omega), e, if_pos (by simp only; omega), RS.spoil_ok rfl]
theorem rFixed_bad {d : List UInt8} {s : RS} (h : s.code ≠ 0) : rFixed d s 1 = (0, s) := by rw [rFixed, if_neg h]
theorem one_bad {d : List UInt8} {s : RS} (h : s.code ≠ 0) : (takR d s).2 = s := by
  unfold takR; simp only [rRaw_bad h, rFixed_bad h]
theorem one_yes {d : List UInt8} {p : Int} {o : Nat} (h : o + 65 ≤ d.length) : takR d ⟨0, p, o⟩ = (resAt d o, ⟨0, p, o + 65⟩) := by
  have h1 := rRaw_yes (d := d) (p := p) (o := o) (by omega)
  have h2 := rRaw_yes (d := d) (p := p) (o := o + 32) (by omega)
  have h3 := rFixed_yes (d := d) (p := p) (o := o + 32 + 32) (by omega)
  unfold takR
  simp only [h1, h2, h3]
  refine Prod.ext ?_ rfl
  rw [Res.eq_iff]
  refine ⟨?_, ?_, rfl⟩
  · show pad32 _ = (resAt d o).act
    rw [pad32_full (by simp; omega), take_at (by omega)]; rfl
  · show pad32 _ = (resAt d o).root
    rw [pad32_full (by simp; omega), take_at (by omega)]; rfl
theorem one_no {d : List UInt8} {p : Int} {o : Nat} (h : ¬ o + 65 ≤ d.length) : (takR d ⟨0, p, o⟩).2.code ≠ 0 := by
  have ten : (10 : Int) ≠ 0 := by decide
  show (rFixed d (rRaw d (rRaw d ⟨0, p, o⟩ 32).2 32).2 1).2.code ≠ 0
  by_cases a : o + 32 ≤ d.length
  · rw [rRaw_yes a]
    by_cases b : o + 32 + 32 ≤ d.length
    · rw [rRaw_yes b, rFixed_no (by omega)]; exact ten
    · rw [rRaw_no b, rFixed_bad ten]; exact ten
  · rw [rRaw_no a, rRaw_bad ten, rFixed_bad ten]; exact ten
theorem many_bad {d : List UInt8} {s : RS} (h : s.code ≠ 0) : ∀ k, (manyR d s k).2 = s
  | 0 => rfl
  | k + 1 => by simp only [manyR, many_bad h k, one_bad h]
theorem many_at {d : List UInt8} {p : Int} : ∀ k, if 1 + 65 * k ≤ d.length then manyR d ⟨0, p, 1⟩ k = (rowsOf d k, ⟨0, p, 1 + 65 * k⟩) else (1 ≤ d.length → (manyR d ⟨0, p, 1⟩ k).2.code ≠ 0)
  | 0 => by
    by_cases h : 1 + 65 * 0 ≤ d.length
    · rw [if_pos h]; rfl
    · rw [if_neg h]; intro h'; omega
  | k + 1 => by
    have ih := many_at (d := d) (p := p) k
    by_cases h : 1 + 65 * (k + 1) ≤ d.length
    · rw [if_pos (by omega)] at ih
      rw [if_pos h, manyR, ih, one_yes (by omega), rowsOf_succ]
      simp only [Prod.mk.injEq, true_and]
      congr 1
    · rw [if_neg h]
      intro h1
      by_cases h2 : 1 + 65 * k ≤ d.length
      · rw [if_pos h2] at ih
        rw [manyR, ih]; exact one_no (by omega)
      · rw [if_neg h2] at ih
        rw [manyR, one_bad (ih h1)]; exact ih h1
theorem numGo_big {l : List UInt8} : ∀ k i v, 1 ≤ i → (numGo l k i v).2.2 = 0 → 128 ≤ (numGo l k i v).1
  | 0, i, v, _, h => by simp [numGo] at h
  | k + 1, i, v, hi, h => by
    unfold numGo at h ⊢
    cases hc : l[i]? with
    | none => rw [hc] at h; simp at h
    | some c =>
      rw [hc] at h
      simp only at h ⊢
      by_cases h1 : c.toNat < 128
      · rw [if_pos h1] at h ⊢
        by_cases h2 : v + c.toNat * 128 ^ i > 2147483647 ∨ (0 < i ∧ c = 0)
        · rw [if_pos h2] at h; simp at h
        · rw [if_neg h2]
          have hc0 : c ≠ 0 := fun e => h2 (Or.inr ⟨by omega, e⟩)
          have hcn : 1 ≤ c.toNat := by
            rcases Nat.eq_zero_or_pos c.toNat with e | e
            · exact absurd (UInt8.toNat_inj.1 (e.trans rfl)) hc0
            · exact e
          have hp : 128 ^ 1 ≤ 128 ^ i := Nat.pow_le_pow_right (by omega) hi
          have : 1 * 128 ^ i ≤ c.toNat * 128 ^ i := Nat.mul_le_mul_right _ hcn
          simp only; omega
      · rw [if_neg h1] at h ⊢
        exact numGo_big k (i + 1) _ (by omega) h
theorem num_nil : numP [] = (0, 0, 10) := by simp [numP, numGo]
theorem num_small {d : List UInt8} (h : d.length ≠ 0) (h1 : headN d < 128) : numP d = (headN d, 1, 0) := by
  cases d with
  | nil => simp at h
  | cons c d =>
    have e : headN (c :: d) = c.toNat := rfl
    rw [e] at h1 ⊢
    unfold numP numGo
    simp only [List.getElem?_cons_zero, if_pos h1]
    have hlt := c.toNat_lt
    rw [if_neg (by simp; omega)]; simp
theorem num_big {d : List UInt8} (h : d.length ≠ 0) (h1 : ¬ headN d < 128) (h2 : (numP d).2.2 = 0) : 128 ≤ (numP d).1 := by
  cases d with
  | nil => simp at h
  | cons c d =>
    have e : headN (c :: d) = c.toNat := rfl
    rw [e] at h1
    unfold numP numGo at h2 ⊢
    simp only [List.getElem?_cons_zero, if_neg h1] at h2 ⊢
    exact numGo_big _ _ _ (by omega) h2
/-- Both take the same. -/
theorem par_tab (d : List UInt8) : parO d = tabO d := by
  have hn : numR d = if (numP d).2.2 = 0 then ((numP d).1, ⟨0, 0, 0 + (numP d).2.1⟩) else (0, ⟨(numP d).2.2, 0, 0⟩) := by
    rw [numR, rNumber, if_pos rfl, List.drop_zero]
    split
    · rfl
    · rw [RS.spoil_ok rfl]; rfl
  unfold parO tabO
  by_cases h0 : d.length = 0
  · have e : d = [] := List.eq_nil_of_length_eq_zero h0
    subst e
    rw [hn, num_nil]; simp [manyR]
  by_cases h1 : headN d < 128
  · have e : numR d = (headN d, ⟨0, 0, 1⟩) := by rw [hn, num_small h0 h1]; rfl
    rw [e]
    simp only
    by_cases h2 : 32 < headN d
    · rw [if_pos h2, if_neg (by omega)]
    · rw [if_neg h2]
      have hm := many_at (d := d) (p := 0) (headN d)
      by_cases h3 : 1 + 65 * headN d ≤ d.length
      · rw [if_pos h3] at hm
        rw [hm]
        simp only [rLeft, if_pos trivial]
        by_cases h4 : d.length = 1 + 65 * headN d
        · cases hv : validR (rowsOf d (headN d)) with
          | true => rw [if_neg (by simp; omega), if_pos ⟨h0, by omega, h4, rfl⟩]
          | false => rw [if_pos (by simp), if_neg (by simp)]
        · rw [if_pos (Or.inr (Or.inl (by omega))), if_neg (fun h => h4 h.2.2.1)]
      · rw [if_neg h3] at hm
        rw [if_pos (Or.inl (hm (by omega))), if_neg (fun h => by omega)]
  · rw [if_neg (c := d.length ≠ 0 ∧ _) (fun h => by omega)]
    by_cases h2 : (numP d).2.2 = 0
    · have := num_big h0 h1 h2
      rw [hn, if_pos h2, if_pos (by simp only; omega)]
    · rw [hn, if_neg h2]
      simp only [manyR]
      rw [if_neg (by omega)]
      exact if_pos (Or.inl h2)
def parT (d : List UInt8) : List Res := (parO d).getD []
def parC (d : List UInt8) : Int := if (parO d).isSome then 0 else 80
theorem par_no {d : List UInt8} (h : parO d = none) : parT d = [] ∧ parC d = 80 := by rw [parT, parC, h]; exact ⟨rfl, rfl⟩
theorem par_yes {d : List UInt8} {l : List Res} (h : parO d = some l) : parT d = l ∧ parC d = 0 := by rw [parT, parC, h]; exact ⟨rfl, rfl⟩
theorem par_valid {d : List UInt8} {l : List Res} (h : parO d = some l) : validR l = true := by
  rw [par_tab] at h
  unfold tabO at h
  split at h
  · rename_i h1
    cases h; exact h1.2.2.2
  · cases h
theorem parT_short (d : List UInt8) : (parT d).length ≤ 32 := by
  cases h : parO d with
  | none => rw [(par_no h).1]; simp
  | some l => rw [(par_yes h).1]; exact (valid_iff.1 (par_valid h)).1
end Go.Proofs.Ytjdkeabimcajlaa
