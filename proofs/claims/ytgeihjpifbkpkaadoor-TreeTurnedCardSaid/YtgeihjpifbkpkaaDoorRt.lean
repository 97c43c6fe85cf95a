/- A tree's bytes and back (plain): what is written is read again, and nothing else is. No program in sight. -/
import Derived.Test.YtgeihjpifbkpkaaDoorRp
set_option linter.unusedVariables false
set_option linter.unusedSimpArgs false
namespace Go.Proofs.YtgeihjpifbkpkaaDoor
open Go.RowKit
theorem nAt_drop {d : List UInt8} {p : Nat} (h : p < d.length) : d.drop p = UInt8.ofNat (nAt d p) :: d.drop (p + 1) := by
  rw [List.drop_eq_getElem_cons h]
  congr 1
  simp [nAt, List.getD_eq_getElem?_getD, List.getElem?_eq_getElem h]
theorem row_bytes {d : List UInt8} {p q : Nat} {x : Ent} (h : rowAt d p = some (x, q)) : d.drop p = entB x ++ d.drop q := by
  unfold rowAt at h
  split at h
  · cases h
  · rename_i h1
    split at h
    · cases h
    · rename_i h2
      simp only [Option.some.injEq, Prod.mk.injEq] at h
      obtain ⟨rfl, rfl⟩ := h
      obtain ⟨n, hn⟩ : ∃ n, nAt d (p + 1) = n := ⟨_, rfl⟩
      rw [hn] at h2
      have e1 : (entAt d p).kind.toNat = nAt d p := rfl
      have e2 : (entAt d p).name.size = n := by
        show Array.size (List.toArray ((d.drop (p + 2)).take (nAt d (p + 1)))) = n
        rw [List.size_toArray, List.length_take, List.length_drop, hn]; omega
      have e3 : (entAt d p).name.data.toList = (d.drop (p + 2)).take n := by
        show (List.toArray ((d.drop (p + 2)).take (nAt d (p + 1)))).toList = _
        rw [List.toList_toArray, hn]
      have e4 : (entAt d p).id = (d.drop (p + 2 + n)).take 32 := by
        show pad32 ((d.drop (p + 2 + nAt d (p + 1))).take 32) = _
        rw [hn]; exact pad32_full (by rw [List.length_take, List.length_drop]; omega)
      unfold entB
      rw [e1, e2, e3, e4, nAt_drop (show p < d.length by omega), nAt_drop (show p + 1 < d.length by omega), hn]
      simp only [List.cons_append, List.nil_append, List.append_assoc]
      congr 2
      have t1 : d.drop (p + 2) = (d.drop (p + 2)).take n ++ d.drop (p + 2 + n) := by
        have := (List.take_append_drop n (d.drop (p + 2))).symm
        rwa [List.drop_drop] at this
      have t2 : d.drop (p + 2 + n) = (d.drop (p + 2 + n)).take 32 ++ d.drop (p + 2 + n + 32) := by
        have := (List.take_append_drop 32 (d.drop (p + 2 + n))).symm
        rwa [List.drop_drop] at this
      rw [show p + 1 + 1 = p + 2 from rfl, ← t2, ← t1]
theorem rows_bytes {d : List UInt8} : ∀ {k : Nat} {l : List Ent} {p : Nat}, rowsTo d k = some (l, p) → d.drop 2 = l.flatMap entB ++ d.drop p := by
  intro k
  induction k with
  | zero => intro l p h; simp only [rowsTo, Option.some.injEq, Prod.mk.injEq] at h; rw [← h.1, ← h.2]; rfl
  | succ k ih =>
    intro l p h
    rw [rowsTo] at h
    split at h
    · cases h
    · rename_i l' p' h1
      split at h
      · cases h
      · rename_i x q h2
        simp only [Option.some.injEq, Prod.mk.injEq] at h
        rw [← h.1, ← h.2, ih h1, row_bytes h2, List.flatMap_append]
        simp
theorem ref_some {d : List UInt8} {l : List Ent} (h : refO d = some l) : encR l = d ∧ isT l = true := by
  unfold refO at h
  split at h
  · cases h
  · rename_i h0
    split at h
    · cases h
    · rename_i l' p h1
      split at h
      · rename_i h2
        simp only [Option.some.injEq] at h
        subst h
        refine ⟨?_, h2.2⟩
        have hl := (rowsTo_len h1).1
        have hb := rows_bytes h1
        rw [h2.1, List.drop_length, List.append_nil] at hb
        have e0 := nAt_drop (d := d) (p := 0) (by omega)
        have e1 := nAt_drop (d := d) (p := 1) (by omega)
        rw [List.drop_zero] at e0
        have z84 : nAt d 0 = 84 := by omega
        unfold encR
        rw [hl, ← hb]
        conv => rhs; rw [e0, e1, z84]
        rfl
      · cases h
theorem nAt_app {a b : List UInt8} {i : Nat} (h : i < b.length) : nAt (a ++ b) (a.length + i) = (b[i]).toNat := by
  unfold nAt
  rw [List.getD_eq_getElem?_getD, List.getElem?_append_right (by omega), Nat.add_sub_cancel_left, List.getElem?_eq_getElem h]; rfl
theorem row_of {a z : List UInt8} {x : Ent} (ok : OkE x) : rowAt (a ++ (entB x ++ z)) a.length = some (x, a.length + (entB x).length) := by
  have hl := entB_len x
  have hs := ok.sz
  have hk : x.kind.toNat < 256 := by have := ok.k3; omega
  have n0 : nAt (a ++ (entB x ++ z)) a.length = x.kind.toNat := by
    have := nAt_app (a := a) (b := entB x ++ z) (i := 0) (by rw [List.length_append]; omega)
    rw [Nat.add_zero] at this
    rw [this]
    show (UInt8.ofNat x.kind.toNat).toNat = _
    rw [UInt8.toNat_ofNat']; exact Nat.mod_eq_of_lt hk
  have n1 : nAt (a ++ (entB x ++ z)) (a.length + 1) = x.name.size := by
    have := nAt_app (a := a) (b := entB x ++ z) (i := 1) (by rw [List.length_append]; omega)
    rw [this]
    show (UInt8.ofNat x.name.size).toNat = _
    rw [UInt8.toNat_ofNat']; exact Nat.mod_eq_of_lt (by omega)
  unfold rowAt
  rw [if_neg (by rw [List.length_append, List.length_append]; omega), n1, if_neg (by rw [List.length_append, List.length_append]; omega)]
  have hN := name_len x.name
  have d2 : (a ++ (entB x ++ z)).drop (a.length + 2) = x.name.data.toList ++ (x.id ++ z) := by
    rw [← List.drop_drop, List.drop_left]
    unfold entB
    simp
  have d3 : (a ++ (entB x ++ z)).drop (a.length + 2 + x.name.size) = x.id ++ z := by
    rw [← List.drop_drop, d2, ← hN, List.drop_left]
  have he : entAt (a ++ (entB x ++ z)) a.length = x := by
    rw [Ent.eq_iff]
    refine ⟨?_, ?_, ?_⟩
    · show (⟨((_ : List UInt8).take (nAt _ (a.length + 1))).toArray⟩ : ByteArray) = _
      rw [n1, d2, ← hN, List.take_left]
    · show ((nAt _ a.length : Nat) : Int) = _
      rw [n0]; have := ok.k1; omega
    · show pad32 (((_ : List UInt8)).take 32) = _
      rw [n1, d3, List.take_append_of_le_length (by rw [x.li]; exact Nat.le_refl _), List.take_of_length_le (by rw [x.li]; exact Nat.le_refl _)]
      exact pad32_full x.li
  rw [he]
  have : a.length + 2 + x.name.size + 32 = a.length + (entB x).length := by omega
  rw [this]
theorem rows_of {l : List Ent} {m : List UInt8} (h : isT l = true) : ∀ k, k ≤ l.length → rowsTo (encR l ++ m) k = some (l.take k, 2 + ((l.take k).flatMap entB).length) := by
  intro k
  induction k with
  | zero => intro _; simp [rowsTo]
  | succ k ih =>
    intro hk
    obtain ⟨x, hx⟩ : ∃ x, l[k]? = some x := ⟨_, List.getElem?_eq_getElem (by omega)⟩
    have ok := isT_at h hx
    rw [rowsTo, ih (by omega)]
    simp only
    have hs : l = l.take k ++ (x :: l.drop (k + 1)) := by
      have h1 := (List.take_append_drop k l).symm
      rw [List.drop_eq_getElem_cons (by omega)] at h1
      have h2 : l[k]'(by omega) = x := by
        rw [List.getElem?_eq_getElem (by omega)] at hx; exact Option.some.inj hx
      rw [h2] at h1; exact h1
    have hb : encR l ++ m = ([84, UInt8.ofNat l.length] ++ (l.take k).flatMap entB) ++ (entB x ++ ((l.drop (k + 1)).flatMap entB ++ m)) := by
      unfold encR
      conv => lhs; rw [hs]
      rw [List.flatMap_append, List.flatMap_cons, ← hs]
      simp only [List.append_assoc]
    have hr := row_of (a := [84, UInt8.ofNat l.length] ++ (l.take k).flatMap entB) (z := (l.drop (k + 1)).flatMap entB ++ m) ok
    rw [← hb] at hr
    have hlen : ([84, UInt8.ofNat l.length] ++ (l.take k).flatMap entB).length = 2 + ((l.take k).flatMap entB).length := by simp; omega
    rw [hlen] at hr
    rw [hr]
    simp only [Option.some.injEq, Prod.mk.injEq]
    have ht : l.take (k + 1) = l.take k ++ [x] := by rw [List.take_add_one, hx]; rfl
    rw [ht, List.flatMap_append, List.length_append]
    simp; omega
theorem enc_len (l : List Ent) : (encR l).length = 2 + (l.flatMap entB).length := by unfold encR; simp; omega
theorem ref_enc {l : List Ent} (h : isT l = true) (m : List UInt8) : refO (encR l ++ m) = if m = [] then some l else none := by
  have h32 := isT_32 h
  have e0 : nAt (encR l ++ m) 0 = 84 := rfl
  have e1 : nAt (encR l ++ m) 1 = l.length := by
    show (UInt8.ofNat l.length).toNat = _
    rw [UInt8.toNat_ofNat']; exact Nat.mod_eq_of_lt (by omega)
  unfold refO
  rw [if_neg (by rw [List.length_append, enc_len, e0, e1]; omega), e1, rows_of h l.length (Nat.le_refl _), List.take_length]
  simp only
  by_cases hm : m = []
  · subst hm
    rw [if_pos ⟨by rw [List.append_nil, enc_len], h⟩, if_pos rfl]
  · have : 0 < m.length := List.length_pos_iff.2 hm
    rw [if_neg (fun e => by have := e.1; rw [List.length_append, enc_len] at this; omega), if_neg hm]
theorem ref_back {l : List Ent} (h : isT l = true) : refO (encR l) = some l := by
  have := ref_enc h []
  rwa [List.append_nil, if_pos rfl] at this
theorem ref_more {l : List Ent} (h : isT l = true) {m : List UInt8} (hm : m ≠ []) : refO (encR l ++ m) = none := by rw [ref_enc h m, if_neg hm]
theorem ref_cut {l : List Ent} (h : isT l = true) {k : Nat} (hk : k < (encR l).length) : refO ((encR l).take k) = none := by
  cases hr : refO ((encR l).take k) with
  | none => rfl
  | some l' =>
    exfalso
    obtain ⟨he, ht⟩ := ref_some hr
    have hs := (List.take_append_drop k (encR l)).symm
    rw [← he] at hs
    have hd : (encR l).drop k ≠ [] := by
      intro e
      have := congrArg List.length e
      rw [List.length_drop] at this; simp at this; omega
    have := ref_more ht hd
    rw [← hs, ref_back h] at this
    cases this
/-- What is taken is a tree. -/
theorem par_taken {d : List UInt8} (h : parC d = 0) : isT (parT d) = true ∧ encR (parT d) = d := by
  unfold parC at h
  unfold parT
  rw [par_ref] at h ⊢
  cases hr : refO d with
  | none => rw [hr] at h; simp at h
  | some l => exact ⟨(ref_some hr).2, (ref_some hr).1⟩
theorem par_refused {d : List UInt8} (h : parC d ≠ 0) : parT d = [] := by
  unfold parC at h
  unfold parT
  cases hr : parO d with
  | none => rfl
  | some l => rw [hr] at h; simp at h
theorem par_back {l : List Ent} (h : isT l = true) : parT (encR l) = l ∧ parC (encR l) = 0 := by
  refine par_yes ?_
  rw [par_ref]; exact ref_back h
theorem par_more {l : List Ent} (h : isT l = true) {m : List UInt8} (hm : m ≠ []) : parT (encR l ++ m) = [] ∧ parC (encR l ++ m) = 70 := par_no (by rw [par_ref]; exact ref_more h hm)
theorem par_cut {l : List Ent} (h : isT l = true) {k : Nat} (hk : k < (encR l).length) : parT ((encR l).take k) = [] ∧ parC ((encR l).take k) = 70 := par_no (by rw [par_ref]; exact ref_cut h hk)
end Go.Proofs.YtgeihjpifbkpkaaDoor
