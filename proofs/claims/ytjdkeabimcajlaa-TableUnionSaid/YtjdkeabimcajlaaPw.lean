/- The order of actions; where one stands in a table; a table with one result more. No program in sight. -/
import Derived.Test.YtjdkeabimcajlaaVb
set_option linter.unusedVariables false
set_option linter.unusedSimpArgs false
namespace Go.Proofs.Ytjdkeabimcajlaa
open Go.RowKit

theorem cmp_turn : ∀ a b : List UInt8, Lib.compareBytes b a = -Lib.compareBytes a b
  | [], [] => rfl
  | [], _ :: _ => rfl
  | _ :: _, [] => rfl
  | x :: a, y :: b => by
    unfold Lib.compareBytes
    have ih := cmp_turn a b
    by_cases h1 : x < y
    · have h2 : ¬ y < x := by simp only [UInt8.lt_iff_toNat_lt] at *; omega
      rw [if_neg h2, if_pos h1, if_pos h1]; rfl
    · by_cases h2 : y < x
      · rw [if_pos h2, if_neg h1, if_pos h2]
      · rw [if_neg h2, if_neg h1, if_neg h1, if_neg h2]; exact ih
theorem cmp_zero : ∀ a b : List UInt8, Lib.compareBytes a b = 0 ↔ a = b
  | [], [] => by simp [Lib.compareBytes]
  | [], _ :: _ => by simp [Lib.compareBytes]
  | _ :: _, [] => by simp [Lib.compareBytes]
  | x :: a, y :: b => by
    unfold Lib.compareBytes
    have ih := cmp_zero a b
    by_cases h1 : x < y
    · rw [if_pos h1]
      have : x ≠ y := by rintro rfl; exact UInt8.lt_irrefl _ h1
      simp [this]
    · by_cases h2 : y < x
      · rw [if_neg h1, if_pos h2]
        have : x ≠ y := by rintro rfl; exact UInt8.lt_irrefl _ h2
        simp [this]
      · rw [if_neg h1, if_neg h2]
        have : x = y := by apply UInt8.toNat_inj.1; simp only [UInt8.lt_iff_toNat_lt] at *; omega
        simp [this, ih]
theorem cmp_trans : ∀ a b c : List UInt8, Lib.compareBytes a b ≤ 0 → Lib.compareBytes b c ≤ 0 → Lib.compareBytes a c ≤ 0
  | [], _, [], _, _ => by simp [Lib.compareBytes]
  | [], _, _ :: _, _, _ => by simp [Lib.compareBytes]
  | _ :: _, [], _, h, _ => by simp [Lib.compareBytes] at h
  | _ :: _, _ :: _, [], _, h => by simp [Lib.compareBytes] at h
  | x :: a, y :: b, z :: c, h1, h2 => by
    unfold Lib.compareBytes at h1 h2 ⊢
    have ih := cmp_trans a b c
    by_cases e1 : x < z
    · rw [if_pos e1]; decide
    · rw [if_neg e1]
      by_cases e2 : z < x
      · rw [if_pos e2]
        exfalso
        by_cases f1 : x < y
        · by_cases g1 : y < z
          · simp only [UInt8.lt_iff_toNat_lt] at *; omega
          · rw [if_neg g1] at h2
            by_cases g2 : z < y
            · rw [if_pos g2] at h2; omega
            · simp only [UInt8.lt_iff_toNat_lt] at *; omega
        · rw [if_neg f1] at h1
          by_cases f2 : y < x
          · rw [if_pos f2] at h1; omega
          · by_cases g1 : y < z
            · simp only [UInt8.lt_iff_toNat_lt] at *; omega
            · rw [if_neg g1] at h2
              by_cases g2 : z < y
              · rw [if_pos g2] at h2; omega
              · simp only [UInt8.lt_iff_toNat_lt] at *; omega
      · rw [if_neg e2]
        by_cases f1 : x < y
        · have g1 : ¬ y < z := by simp only [UInt8.lt_iff_toNat_lt] at *; omega
          have g2 : z < y := by simp only [UInt8.lt_iff_toNat_lt] at *; omega
          rw [if_neg g1, if_pos g2] at h2; omega
        · rw [if_neg f1] at h1
          by_cases f2 : y < x
          · rw [if_pos f2] at h1; omega
          · rw [if_neg f2] at h1
            have g1 : ¬ y < z := by simp only [UInt8.lt_iff_toNat_lt] at *; omega
            have g2 : ¬ z < y := by simp only [UInt8.lt_iff_toNat_lt] at *; omega
            rw [if_neg g1, if_neg g2] at h2
            exact ih h1 h2


theorem cmp_lt_trans {a b c : List UInt8} (h1 : Lib.compareBytes a b < 0) (h2 : Lib.compareBytes b c < 0) : Lib.compareBytes a c < 0 := by
  have h3 := cmp_trans a b c (by omega) (by omega)
  rcases Int.lt_or_eq_of_le h3 with h | h
  · exact h
  · have e := (cmp_zero a c).1 h
    subst e
    have := cmp_turn a b
    omega
theorem cmp_lt_le {a b c : List UInt8} (h1 : Lib.compareBytes a b < 0) (h2 : Lib.compareBytes b c ≤ 0) : Lib.compareBytes a c < 0 := by
  rcases Int.lt_or_eq_of_le h2 with h | h
  · exact cmp_lt_trans h1 h
  · have e := (cmp_zero b c).1 h
    subst e; exact h1
theorem cmp_le_lt {a b c : List UInt8} (h1 : Lib.compareBytes a b ≤ 0) (h2 : Lib.compareBytes b c < 0) : Lib.compareBytes a c < 0 := by
  rcases Int.lt_or_eq_of_le h1 with h | h
  · exact cmp_lt_trans h h2
  · have e := (cmp_zero a b).1 h
    subst e; exact h2

/-- Of a table the actions go up. -/
theorem ok_step {l : List Res} {n j : Nat} {x y : Res} (h : okTo l n = true) (hj : j + 1 < n) (hx : l[j + 1]? = some x) (hy : l[j]? = some y) : Lib.compareBytes y.act x.act < 0 := by
  by_cases hs : stepOk l (j + 1) = true
  · rw [step_next hx hy, Bool.and_eq_true] at hs
    simpa [ltR] using hs.2
  · rw [okTo_no (by simpa using hs) hj] at h; cases h
theorem ok_up {l : List Res} (h : okTo l l.length = true) : ∀ (d i : Nat) (x y : Res), l[i]? = some x → l[i + (d + 1)]? = some y → Lib.compareBytes x.act y.act < 0
  | 0, i, x, y, hx, hy => ok_step h (List.getElem?_eq_some_iff.1 hy).1 hy hx
  | d + 1, i, x, y, hx, hy => by
    have hlt := (List.getElem?_eq_some_iff.1 hy).1
    obtain ⟨z, hz⟩ : ∃ z, l[i + (d + 1)]? = some z := ⟨_, List.getElem?_eq_getElem (by omega)⟩
    exact cmp_lt_trans (ok_up h d i x z hx hz) (ok_step h (by omega) (by rw [← hy]; congr 1) hz)
theorem ok_lt {l : List Res} (h : okTo l l.length = true) {i j : Nat} {x y : Res} (hij : i < j) (hx : l[i]? = some x) (hy : l[j]? = some y) : Lib.compareBytes x.act y.act < 0 :=
  ok_up h (j - i - 1) i x y hx (by rw [← hy]; congr 1; omega)

/-- The place of an action. -/
structure IsPlace (l : List Res) (a : List UInt8) (r : Nat) : Prop where
  le : r ≤ l.length
  low : ∀ k x, k < r → l[k]? = some x → Lib.compareBytes x.act a < 0
  high : ∀ k x, r ≤ k → l[k]? = some x → ¬ Lib.compareBytes x.act a < 0
def plc (l : List Res) (a : List UInt8) : Nat := (l.takeWhile fun x => decide (Lib.compareBytes x.act a < 0)).length
theorem IsPlace.eq {l : List Res} {a : List UInt8} {r s : Nat} (h : IsPlace l a r) (h' : IsPlace l a s) : r = s := by
  have h1 := h.le
  have h2 := h'.le
  rcases Nat.lt_trichotomy r s with hlt | he | hlt
  · exact absurd (h'.low r _ hlt (List.getElem?_eq_getElem (by omega))) (h.high r _ (Nat.le_refl _) (List.getElem?_eq_getElem (by omega)))
  · exact he
  · exact absurd (h.low s _ hlt (List.getElem?_eq_getElem (by omega))) (h'.high s _ (Nat.le_refl _) (List.getElem?_eq_getElem (by omega)))
theorem mem_tw {α : Type} (p : α → Bool) : ∀ (l : List α) (x : α), x ∈ l.takeWhile p → p x = true
  | [], x, h => by cases h
  | y :: l, x, h => by
    rw [List.takeWhile_cons] at h
    by_cases hp : p y = true
    · rw [if_pos hp] at h
      rcases List.mem_cons.1 h with rfl | h
      · exact hp
      · exact mem_tw p l x h
    · rw [if_neg hp] at h; cases h
theorem plc_le (l : List Res) (a : List UInt8) : plc l a ≤ l.length := List.Sublist.length_le (List.takeWhile_sublist _)
theorem plc_is {l : List Res} (h : okTo l l.length = true) (a : List UInt8) : IsPlace l a (plc l a) := by
  have hspl : l = (l.takeWhile fun x => decide (Lib.compareBytes x.act a < 0)) ++ (l.dropWhile fun x => decide (Lib.compareBytes x.act a < 0)) := (List.takeWhile_append_dropWhile).symm
  obtain ⟨T, hT⟩ : ∃ T, (l.takeWhile fun x => decide (Lib.compareBytes x.act a < 0)) = T := ⟨_, rfl⟩
  obtain ⟨D, hD⟩ : ∃ D, (l.dropWhile fun x => decide (Lib.compareBytes x.act a < 0)) = D := ⟨_, rfl⟩
  have hp : plc l a = T.length := by rw [plc, hT]
  rw [hT, hD] at hspl
  have hlow : ∀ x ∈ T, Lib.compareBytes x.act a < 0 := fun x hx => by
    have := mem_tw (fun x : Res => decide (Lib.compareBytes x.act a < 0)) l x (by rw [hT]; exact hx)
    simpa using this
  rw [hp]
  refine ⟨by rw [hspl]; simp, fun k x hk hx => ?_, fun k x hk hx => ?_⟩
  · rw [hspl, List.getElem?_append_left hk] at hx
    exact hlow x (List.mem_of_getElem? hx)
  · have hkl := (List.getElem?_eq_some_iff.1 hx).1
    have hD0 : D ≠ [] := by
      intro e; rw [hspl, e] at hkl; simp at hkl; omega
    have hne : (l.dropWhile fun x => decide (Lib.compareBytes x.act a < 0)) ≠ [] := by rw [hD]; exact hD0
    have hfirst := List.head_dropWhile_not (fun x : Res => decide (Lib.compareBytes x.act a < 0)) hne
    obtain ⟨d, ds, hds⟩ : ∃ d ds, D = d :: ds := by cases D with | nil => exact absurd rfl hD0 | cons d ds => exact ⟨d, ds, rfl⟩
    have hd : ¬ Lib.compareBytes d.act a < 0 := by
      have : (l.dropWhile fun x => decide (Lib.compareBytes x.act a < 0)).head hne = d := by
        simp only [hD, hds, List.head_cons]
      rw [this] at hfirst
      simpa using hfirst
    have hTd : l[T.length]? = some d := by rw [hspl, List.getElem?_append_right (Nat.le_refl _), hds]; simp
    rcases Nat.lt_or_ge T.length k with h1 | h1
    · intro hc
      have h2 := ok_lt h h1 hTd hx
      exact hd (cmp_lt_trans h2 hc)
    · obtain rfl : k = T.length := by omega
      rw [hTd] at hx; cases hx; exact hd

def hitR (l : List Res) (a : List UInt8) : Bool := match l[plc l a]? with
  | none => false
  | some x => x.act == a
/-- A table with that result, in the place of one of its action. -/
def withR (l : List Res) (x : Res) : List Res := l.take (plc l x.act) ++ ([x] ++ l.drop (if hitR l x.act then plc l x.act + 1 else plc l x.act))
def withC (l : List Res) (x : Res) : Int := if validR l = true ∧ fitR x = true then (if 32 < (withR l x).length then 97 else 0) else 80
theorem withR_len (l : List Res) (x : Res) : (withR l x).length = if hitR l x.act then l.length else l.length + 1 := by
  have h := plc_le l x.act
  unfold withR
  by_cases hh : hitR l x.act = true
  · have : plc l x.act < l.length := by
      unfold hitR at hh
      cases he : l[plc l x.act]? with
      | none => rw [he] at hh; cases hh
      | some y => exact (List.getElem?_eq_some_iff.1 he).1
    rw [if_pos hh, if_pos hh]; simp; omega
  · rw [if_neg hh, if_neg hh]; simp; omega
end Go.Proofs.Ytjdkeabimcajlaa
