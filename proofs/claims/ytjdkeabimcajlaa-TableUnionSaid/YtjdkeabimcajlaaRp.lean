/- What With of the law lays out, piece by piece. No program in sight. -/
import Derived.Test.YtjdkeabimcajlaaWi
set_option linter.unusedVariables false
set_option linter.unusedSimpArgs false
namespace Go.Proofs.Ytjdkeabimcajlaa
open Go.RowKit

/-- Where the rest goes on behind a result's place. -/
def nxtR (l : List Res) (x : Res) : Nat := if hitR l x.act then plc l x.act + 1 else plc l x.act
/-- What is laid out ahead of the i-th result. -/
def outAt (l : List Res) (x : Res) (i : Nat) : List Res := if i ≤ plc l x.act then l.take i else l.take (plc l x.act) ++ ([x] ++ (l.take i).drop (nxtR l x))
theorem outAt_low {l : List Res} {x : Res} {i : Nat} (h : i ≤ plc l x.act) : outAt l x i = l.take i := by rw [outAt, if_pos h]
theorem outAt_high {l : List Res} {x : Res} {i : Nat} (h : plc l x.act < i) : outAt l x i = l.take (plc l x.act) ++ ([x] ++ (l.take i).drop (nxtR l x)) := by rw [outAt, if_neg (by omega)]
theorem outAt_len (l : List Res) (x : Res) (i : Nat) (hi : i ≤ l.length) : (outAt l x i).length ≤ i + 1 := by
  have h := plc_le l x.act
  unfold outAt
  split
  · simp; omega
  · simp only [List.length_append, List.length_take, List.length_drop, List.length_cons, List.length_nil, nxtR]
    split <;> omega
/-- Ahead of the place: the result itself. -/
theorem outAt_before {l : List Res} {x y : Res} {i : Nat} (hy : l[i]? = some y) (h : i < plc l x.act) : outAt l x (i + 1) = outAt l x i ++ [y] := by
  rw [outAt_low (by omega), outAt_low (by omega), List.take_add_one, hy]; rfl
/-- At the place: hit. -/
theorem outAt_hit {l : List Res} {x y : Res} {i : Nat} (hy : l[i]? = some y) (h : i = plc l x.act) (hh : hitR l x.act = true) : outAt l x (i + 1) = outAt l x i ++ [x] := by
  subst h
  rw [outAt_high (by omega), outAt_low (Nat.le_refl _), nxtR, if_pos hh, List.drop_eq_nil_of_le (by simp; omega), List.append_nil]
theorem outAt_miss {l : List Res} {x y : Res} {i : Nat} (hy : l[i]? = some y) (h : i = plc l x.act) (hh : hitR l x.act = false) : outAt l x (i + 1) = (outAt l x i ++ [x]) ++ [y] := by
  subst h
  rw [outAt_high (by omega), outAt_low (Nat.le_refl _), nxtR, if_neg (by simp [hh]), List.take_add_one, hy]
  have hl : (l.take (plc l x.act)).length = plc l x.act := by rw [List.length_take, Nat.min_eq_left (plc_le l x.act)]
  have : (l.take (plc l x.act) ++ (some y).toList).drop (plc l x.act) = [y] := by
    conv => lhs; arg 1; rw [← hl]
    rw [List.drop_left]; rfl
  rw [this, List.append_assoc]
theorem outAt_after {l : List Res} {x y : Res} {i : Nat} (hy : l[i]? = some y) (h : plc l x.act < i) : outAt l x (i + 1) = outAt l x i ++ [y] := by
  rw [outAt_high (by omega), outAt_high h, List.take_add_one, hy]
  have hl : (l.take i).length = i := by rw [List.length_take, Nat.min_eq_left (by have := (List.getElem?_eq_some_iff.1 hy).1; omega)]
  have hn : nxtR l x ≤ (l.take i).length := by rw [hl, nxtR]; split <;> omega
  rw [List.drop_append_of_le_length hn]
  simp
theorem outAt_end {l : List Res} {x : Res} : (if plc l x.act < l.length then outAt l x l.length else outAt l x l.length ++ [x]) = withR l x := by
  have hle := plc_le l x.act
  by_cases h : plc l x.act < l.length
  · rw [if_pos h, outAt_high h, List.take_length]; rfl
  · rw [if_neg h, outAt_low (by omega), List.take_length]
    have e : plc l x.act = l.length := by omega
    have hh : hitR l x.act = false := hit_end rfl (by omega)
    rw [withR, if_neg (by simp [hh]), e, List.take_length, List.drop_length]; simp
/-- How the action compares with the i-th result's, by place. -/
theorem ord_before {l : List Res} {x y : Res} {i : Nat} (hok : okTo l l.length = true) (hy : l[i]? = some y) (h : i < plc l x.act) : Lib.compareBytes y.act x.act < 0 := (plc_is hok x.act).low i y h hy
theorem ord_at {l : List Res} {x y : Res} {i : Nat} (hok : okTo l l.length = true) (hy : l[i]? = some y) (h : i = plc l x.act) : 0 ≤ Lib.compareBytes y.act x.act ∧ (hitR l x.act = true ↔ Lib.compareBytes y.act x.act = 0) := by
  refine ⟨by have := (plc_is hok x.act).high i y (by omega) hy; omega, ?_⟩
  rw [hit_at h hy, cmp_zero]; simp
theorem ord_after {l : List Res} {x y : Res} {i : Nat} (hok : okTo l l.length = true) (hy : l[i]? = some y) (h : plc l x.act < i) : 0 < Lib.compareBytes y.act x.act := by
  have hi := (List.getElem?_eq_some_iff.1 hy).1
  obtain ⟨z, hz⟩ : ∃ z, l[plc l x.act]? = some z := ⟨_, List.getElem?_eq_getElem (by omega)⟩
  have h1 := (plc_is hok x.act).high _ z (Nat.le_refl _) hz
  have h2 := ok_lt hok h hz hy
  have t1 := cmp_turn x.act z.act
  have h3 := cmp_le_lt (a := x.act) (b := z.act) (c := y.act) (by have := cmp_turn z.act x.act; omega) h2
  have := cmp_turn x.act y.act
  omega
end Go.Proofs.Ytjdkeabimcajlaa
