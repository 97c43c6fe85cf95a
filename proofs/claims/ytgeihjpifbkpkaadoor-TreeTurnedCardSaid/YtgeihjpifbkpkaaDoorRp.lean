/- Parse of the law (plain): what it takes is what Parse of the program takes. No program in sight. -/
import Derived.Test.YtgeihjpifbkpkaaDoorPs
set_option linter.unusedVariables false
set_option linter.unusedSimpArgs false
namespace Go.Proofs.YtgeihjpifbkpkaaDoor
open Go.RowKit

def nAt (d : List UInt8) (p : Nat) : Nat := (d.getD p 0).toNat
/-- The entry whose bytes begin at p, and where the next begins. -/
def entAt (d : List UInt8) (p : Nat) : Ent := entP ⟨((d.drop (p + 2)).take (nAt d (p + 1))).toArray⟩ (nAt d p) ((d.drop (p + 2 + nAt d (p + 1))).take 32)
def rowAt (d : List UInt8) (p : Nat) : Option (Ent × Nat) :=
  if d.length < p + 2 then none else if 32 < nAt d (p + 1) ∨ d.length < p + 2 + nAt d (p + 1) + 32 then none else some (entAt d p, p + 2 + nAt d (p + 1) + 32)
def rowsTo (d : List UInt8) : Nat → Option (List Ent × Nat)
  | 0 => some ([], 2)
  | k + 1 => match rowsTo d k with
    | none => none
    | some (l, p) => match rowAt d p with
      | none => none
      | some (x, q) => some (l ++ [x], q)
def refO (d : List UInt8) : Option (List Ent) :=
  if d.length < 2 ∨ nAt d 0 ≠ 84 ∨ 32 < nAt d 1 then none else
  match rowsTo d (nAt d 1) with
  | none => none
  | some (l, p) => if p = d.length ∧ isT l = true then some l else none
theorem rowAt_le {d : List UInt8} {p q : Nat} {x : Ent} (h : rowAt d p = some (x, q)) : q ≤ d.length ∧ p + 34 ≤ q ∧ q ≤ p + 66 := by
  unfold rowAt at h
  split at h
  · cases h
  · split at h
    · cases h
    · simp only [Option.some.injEq, Prod.mk.injEq] at h
      omega
theorem rowsTo_len {d : List UInt8} : ∀ {k : Nat} {l : List Ent} {p : Nat}, rowsTo d k = some (l, p) → l.length = k ∧ 2 ≤ p ∧ p ≤ 2 + 66 * k ∧ (2 ≤ d.length → p ≤ d.length) := by
  intro k
  induction k with
  | zero => intro l p h; simp only [rowsTo, Option.some.injEq, Prod.mk.injEq] at h; rw [← h.1, ← h.2]; simp
  | succ k ih =>
    intro l p h
    rw [rowsTo] at h
    split at h
    · cases h
    · rename_i l' p' h1
      split at h
      · cases h
      · rename_i x q h2
        simp only [Option.some.injEq, Prod.mk.injEq] at h
        obtain ⟨a1, a2, a3, a4⟩ := ih h1
        have h3 := rowAt_le h2
        rw [← h.1, ← h.2, List.length_append]
        simp; omega
theorem rowsTo_no {d : List UInt8} {k n : Nat} (h : rowsTo d k = none) (hn : k ≤ n) : rowsTo d n = none := by
  induction n with
  | zero => have : k = 0 := by omega
            subst this; exact h
  | succ n ih =>
    by_cases e : k = n + 1
    · subst e; exact h
    · rw [rowsTo, ih (by omega)]
theorem ge_pow (l : List UInt8) : ∀ k i v, 0 < i → (numGo l k i v).2.2 = 0 → 128 ^ i ≤ (numGo l k i v).1 := by
  intro k
  induction k with
  | zero => intro i v _ h; simp [numGo] at h
  | succ k ih =>
    intro i v hi h
    rw [numGo] at h ⊢
    cases hc : l[i]? with
    | none => rw [hc] at h; simp at h
    | some c =>
      rw [hc] at h
      simp only at h ⊢
      split at h
      · rename_i h1
        rw [if_pos h1]
        split at h
        · simp at h
        · rename_i h2
          rw [if_neg h2]
          simp only
          have c0 : c.toNat ≠ 0 := fun e => h2 (Or.inr ⟨hi, UInt8.toNat_inj.1 (by simpa using e)⟩)
          have : 1 * 128 ^ i ≤ c.toNat * 128 ^ i := Nat.mul_le_mul_right _ (by omega)
          omega
      · rename_i h1
        rw [if_neg h1]
        have := ih (i + 1) _ (by omega) h
        have : (128 : Nat) ^ i ≤ 128 ^ (i + 1) := Nat.pow_le_pow_right (by omega) (by omega)
        omega
theorem pl_num_small {l : List UInt8} {c : UInt8} (h : l[0]? = some c) (hc : c.toNat < 128) : numP l = (c.toNat, 1, 0) := by
  unfold numP
  rw [numGo, h]
  simp only
  rw [if_pos hc, if_neg (by simp; omega)]
  simp
theorem pl_num_big {l : List UInt8} {c : UInt8} (h : l[0]? = some c) (hc : ¬ c.toNat < 128) (h0 : (numP l).2.2 = 0) : 128 ≤ (numP l).1 := by
  unfold numP at h0 ⊢
  rw [numGo, h] at h0 ⊢
  simp only at h0 ⊢
  rw [if_neg hc] at h0 ⊢
  have := ge_pow l 4 1 _ (by omega) h0
  simpa using this
theorem pl_num_nil : (numP []).2.2 = 10 := by simp [numP, numGo]
theorem drop0 {d : List UInt8} {p : Nat} (h : p < d.length) : (d.drop p)[0]? = some (d.getD p 0) := by
  rw [List.getElem?_drop, Nat.add_zero, List.getD_eq_getElem?_getD, List.getElem?_eq_getElem h]; rfl
theorem pl_fixed_ok {d : List UInt8} {c p : Nat} (h : p < d.length) : rFixed d ⟨0, c, p⟩ 1 = (nAt d p, ⟨0, c, p + 1⟩) := by
  unfold rFixed
  simp only [if_true]
  rw [if_neg (by omega), if_neg (by simp; omega)]
  have e : (d.drop p).take 1 = [d.getD p 0] := by
    rw [List.take_one, List.head?_eq_getElem?, drop0 h]; rfl
  simp [e, beVal, nAt]
theorem pl_fixed_no {d : List UInt8} {c p : Nat} (h : ¬ p < d.length) : (rFixed d ⟨0, c, p⟩ 1).2.code ≠ 0 := by
  unfold rFixed
  simp only [if_true]
  rw [if_neg (by omega), if_pos (by simp; omega)]
  simp [RS.spoil]
theorem pl_text_sticky {d : List UInt8} {s : RS} {k : Int} (h : s.code ≠ 0) : (rText d s k).2 = s := by unfold rText; rw [if_neg h]
theorem pl_raw_sticky {d : List UInt8} {s : RS} {k : Int} (h : s.code ≠ 0) : (rRaw d s k).2 = s := by unfold rRaw; rw [if_neg h]
theorem pl_text_ok {d : List UInt8} {c p : Nat} (h : p < d.length) (h1 : nAt d p ≤ 32) (h2 : p + 1 + nAt d p ≤ d.length) : rText d ⟨0, c, p⟩ 32 = ((d.drop (p + 1)).take (nAt d p), ⟨0, c, p + 1 + nAt d p⟩) := by
  have hn := pl_num_small (drop0 h) (by unfold nAt at h1; omega)
  unfold rText
  simp only [if_true]
  rw [if_neg (by omega), hn]
  have ht : textC 32 ((d.length : Int) - (p : Nat)) ((d.getD p 0).toNat, 1, 0) = 0 := by
    unfold textC nAt at *
    simp only [if_true]
    rw [if_neg (by omega), if_neg (by omega)]
  rw [ht]
  simp only [if_true]
  rfl
theorem pl_text_no {d : List UInt8} {c p : Nat} (h : ¬ (p < d.length ∧ nAt d p ≤ 32 ∧ p + 1 + nAt d p ≤ d.length)) : (rText d ⟨0, c, p⟩ 32).2.code ≠ 0 := by
  have ht : textC 32 ((d.length : Int) - (p : Nat)) (numP (d.drop p)) ≠ 0 := by
    by_cases h0 : p < d.length
    · by_cases hs : nAt d p < 128
      · rw [pl_num_small (drop0 h0) hs]
        unfold textC
        simp only [if_true]
        unfold nAt at *
        by_cases h1 : (d.getD p 0).toNat ≤ 32
        · rw [if_neg (by omega), if_pos (by omega)]; omega
        · rw [if_pos (by omega)]; omega
      · unfold textC
        by_cases hc : (numP (d.drop p)).2.2 = 0
        · have := pl_num_big (drop0 h0) hs hc
          rw [if_pos hc, if_pos (by omega)]; omega
        · rw [if_neg hc]; exact hc
    · rw [List.drop_eq_nil_of_le (by omega)]
      unfold textC
      rw [pl_num_nil]; simp
  unfold rText
  simp only [if_true]
  rw [if_neg (by omega), if_neg ht]
  simp only [RS.spoil, if_true]
  exact ht
theorem take_row {d : List UInt8} {c p q : Nat} {x : Ent} (h : rowAt d p = some (x, q)) : takE d ⟨0, c, p⟩ = (x, ⟨0, c, q⟩) := by
  unfold rowAt at h
  split at h
  · cases h
  · rename_i h1
    split at h
    · cases h
    · rename_i h2
      simp only [Option.some.injEq, Prod.mk.injEq] at h
      obtain ⟨rfl, rfl⟩ := h
      unfold takE
      rw [pl_fixed_ok (by omega)]
      simp only
      rw [pl_text_ok (p := p + 1) (by omega) (by omega) (by omega)]
      simp only
      have hr : rRaw d ⟨0, c, p + 1 + 1 + nAt d (p + 1)⟩ 32 = ((d.drop (p + 2 + nAt d (p + 1))).take 32, ⟨0, c, p + 2 + nAt d (p + 1) + 32⟩) := by
        unfold rRaw
        simp only [if_true]
        rw [if_neg (by omega), if_neg (by simp; omega)]
        rfl
      rw [hr]
      rfl
theorem take_none {d : List UInt8} {c p : Nat} (h : rowAt d p = none) : (takE d ⟨0, c, p⟩).2.code ≠ 0 := by
  unfold takE
  simp only
  by_cases h0 : p < d.length
  · rw [pl_fixed_ok h0]
    simp only
    by_cases h1 : p + 1 < d.length ∧ nAt d (p + 1) ≤ 32 ∧ p + 1 + 1 + nAt d (p + 1) ≤ d.length
    · rw [pl_text_ok h1.1 h1.2.1 h1.2.2]
      simp only
      have h3 : d.length < p + 2 + nAt d (p + 1) + 32 := by
        unfold rowAt at h
        rw [if_neg (by omega)] at h
        split at h
        · omega
        · cases h
      unfold rRaw
      simp only [if_true]
      rw [if_neg (by omega), if_pos (by simp; omega)]
      simp [RS.spoil]
    · have := pl_text_no (c := c) h1
      rw [pl_raw_sticky this]; exact this
  · have h1 := pl_fixed_no (c := c) h0
    have h2 : (rText d (rFixed d ⟨0, c, p⟩ 1).2 32).2.code ≠ 0 := by rw [pl_text_sticky h1]; exact h1
    rw [pl_raw_sticky h2]; exact h2
theorem stepE_snoc {l : List Ent} {x : Ent} {i : Nat} (h : i < l.length) : stepE (l ++ [x]) i = stepE l i := by
  unfold stepE
  rw [List.getElem?_append_left h]
  cases l[i]? with
  | none => rfl
  | some z =>
    cases i with
    | zero => rfl
    | succ j => simp only; rw [List.getElem?_append_left (by omega)]
theorem esTo_snoc (l : List Ent) (x : Ent) : esTo (l ++ [x]) (l ++ [x]).length = (esTo l l.length && (okE x && upE l x)) := by
  rw [List.length_append, List.length_singleton, esTo_succ]
  congr 1
  · unfold esTo
    rw [Bool.eq_iff_iff, List.all_eq_true, List.all_eq_true]
    constructor
    · intro h i hi; rw [← stepE_snoc (x := x) (List.mem_range.1 hi)]; exact h i hi
    · intro h i hi; rw [stepE_snoc (x := x) (List.mem_range.1 hi)]; exact h i hi
  · unfold stepE
    rw [List.getElem?_append_right (Nat.le_refl _), Nat.sub_self]
    simp only [List.getElem?_cons_zero]
    congr 1
    cases hl : l.length with
    | zero => have : l = [] := List.eq_nil_of_length_eq_zero hl
              subst this; rfl
    | succ j =>
      simp only
      have hg := List.getElem?_eq_getElem (l := l) (i := j) (by omega)
      rw [List.getElem?_append_left (by omega), hg]
      simp only
      unfold upE
      have e : l.getLast? = some l[j] := by rw [List.getLast?_eq_getElem?]; simp only [hl, Nat.add_sub_cancel]; exact hg
      rw [e]
theorem many_rows (d : List UInt8) (k : Nat) : manyE d ⟨0, 0, 2⟩ k = match rowsTo d k with | none => none | some (l, p) => if esTo l l.length = true then some (l, ⟨0, 0, p⟩) else none := by
  induction k with
  | zero => rfl
  | succ k ih =>
    rw [manyE, rowsTo, ih]
    cases hr : rowsTo d k with
    | none => rfl
    | some q =>
      obtain ⟨l, p⟩ := q
      simp only
      cases hx : rowAt d p with
      | none =>
        simp only
        by_cases he : esTo l l.length = true
        · rw [if_pos he]
          simp only
          have := take_none (c := 0) hx
          rw [if_neg]
          intro h
          have h1 := ((Bool.and_eq_true _ _).mp h).1
          unfold takOk at h1
          exact this (of_decide_eq_true ((Bool.and_eq_true _ _).mp h1).2)
        · rw [if_neg he]
      | some z =>
        obtain ⟨x, q⟩ := z
        simp only
        have ht := take_row (c := 0) hx
        rw [esTo_snoc]
        cases he : esTo l l.length with
        | false => simp
        | true =>
          simp only [if_true, Bool.true_and]
          have e : takOk d ⟨0, 0, p⟩ = okE x := by unfold takOk; rw [show ((0 : Int)) = ((0 : Nat) : Int) from rfl] at *; rw [ht]; simp
          rw [show takE d ⟨0, 0, p⟩ = (x, ⟨0, 0, q⟩) from ht, e]
theorem par_ref (d : List UInt8) : parO d = refO d := by
  unfold parO refO
  by_cases h0 : 0 < d.length
  · have hf := pl_fixed_ok (d := d) (c := 0) h0
    rw [show rFixed d ⟨0, 0, 0⟩ 1 = (nAt d 0, ⟨0, 0, 1⟩) from hf]
    simp only
    by_cases h1 : nAt d 0 = 84
    · rw [if_pos ⟨h1, trivial⟩]
      by_cases h2 : 1 < d.length
      · by_cases h3 : nAt d 1 ≤ 32
        · have hn : rNumber d ⟨0, 0, 1⟩ = (nAt d 1, ⟨0, 0, 2⟩) := by
            have := pl_num_small (drop0 h2) (by unfold nAt at h3; omega)
            unfold rNumber
            simp only [if_true]
            rw [this]
            simp [nAt]
          rw [hn]
          simp only
          rw [if_pos ⟨h3, trivial⟩, if_neg (by omega), many_rows]
          cases hr : rowsTo d (nAt d 1) with
          | none => rfl
          | some q =>
            obtain ⟨l, p⟩ := q
            have hl := rowsTo_len hr
            have h32 : l.length ≤ 32 := by omega
            have hp := hl.2.2.2 (by omega)
            have hi : isT l = esTo l l.length := by unfold isT; rw [decide_eq_true h32, Bool.true_and]
            simp only
            rw [hi]
            by_cases he : esTo l l.length = true
            · rw [if_pos he]
              simp only
              by_cases hq : p = d.length
              · rw [if_pos ⟨by unfold rLeft; simp; omega, trivial⟩, if_pos ⟨hq, he⟩]
              · rw [if_neg (by unfold rLeft; simp; omega), if_neg (fun h => hq h.1)]
            · rw [if_neg he, if_neg (fun h => he h.2)]
        · rw [if_pos (Or.inr (Or.inr (by omega)))]
          rw [if_neg]
          rintro ⟨ha, hb⟩
          have hc : (numP (d.drop 1)).2.2 = 0 := by
            unfold rNumber at hb
            simp only [if_true] at hb
            by_cases hz : (numP (d.drop 1)).2.2 = 0
            · exact hz
            · rw [if_neg hz] at hb
              simpa [RS.spoil] using hb
          have hv : (rNumber d ⟨0, 0, 1⟩).1 = (numP (d.drop 1)).1 := by
            unfold rNumber; simp only [if_true]; rw [if_pos hc]
          rw [hv] at ha
          by_cases hs : nAt d 1 < 128
          · rw [pl_num_small (drop0 h2) hs] at ha
            exact h3 ha
          · have := pl_num_big (drop0 h2) hs hc
            omega
      · rw [if_pos (Or.inl (by omega))]
        rw [if_neg]
        rintro ⟨ha, hb⟩
        unfold rNumber at hb
        simp only [if_true] at hb
        rw [List.drop_eq_nil_of_le (by omega), pl_num_nil] at hb
        simp [RS.spoil] at hb
    · rw [if_neg (fun h => h1 h.1), if_pos (Or.inr (Or.inl h1))]
  · rw [if_pos (Or.inl (by omega)), if_neg (fun h => (pl_fixed_no (c := 0) h0) h.2)]
end Go.Proofs.YtgeihjpifbkpkaaDoor
