/- A table's bytes and what is read of them: each other's. No program in sight. -/
import Derived.Test.YtjdkeabimcajlaaPp
set_option linter.unusedVariables false
set_option linter.unusedSimpArgs false
namespace Go.Proofs.Ytjdkeabimcajlaa
open Go.RowKit

def inByte (x : Res) : Prop := 0 ≤ x.code ∧ x.code ≤ 255
theorem fit_byte {x : Res} (h : fitR x = true) : inByte x := by simpa [fitR, inByte] using h
theorem resB_inj {x y : Res} (hx : inByte x) (hy : inByte y) (h : resB x = resB y) : x = y := by
  unfold resB at h
  obtain ⟨h1, h2⟩ := List.append_inj h (by rw [x.la, y.la])
  obtain ⟨h3, h4⟩ := List.append_inj h2 (by rw [x.lr, y.lr])
  rw [Res.eq_iff]
  refine ⟨h1, h3, ?_⟩
  have h5 : UInt8.ofNat x.code.toNat = UInt8.ofNat y.code.toNat := by simpa using h4
  have h6 := congrArg UInt8.toNat h5
  simp only [UInt8.toNat_ofNat'] at h6
  obtain ⟨a, b⟩ := hx
  obtain ⟨c, d⟩ := hy
  omega
theorem flat_inj : ∀ {l m : List Res}, l.length = m.length → (∀ x ∈ l, inByte x) → (∀ x ∈ m, inByte x) → l.flatMap resB = m.flatMap resB → l = m
  | [], [], _, _, _, _ => rfl
  | [], _ :: _, h, _, _, _ => by simp at h
  | _ :: _, [], h, _, _, _ => by simp at h
  | x :: l, y :: m, h, h1, h2, h3 => by
    rw [List.flatMap_cons, List.flatMap_cons] at h3
    obtain ⟨a, b⟩ := List.append_inj h3 (by rw [resB_len, resB_len])
    rw [resB_inj (h1 x List.mem_cons_self) (h2 y List.mem_cons_self) a, flat_inj (by simpa using h) (fun z hz => h1 z (List.mem_cons_of_mem _ hz)) (fun z hz => h2 z (List.mem_cons_of_mem _ hz)) b]
theorem resB_at {d : List UInt8} {o : Nat} (h : o + 65 ≤ d.length) : resB (resAt d o) = (d.drop o).take 65 := by
  have e1 := take_at (d := d) (o := o) (n := 32) (by omega)
  have e2 := take_at (d := d) (o := o + 32) (n := 32) (by omega)
  have e3 := take_at (d := d) (o := o + 64) (n := 1) (by omega)
  have s : (d.drop o).take 65 = (d.drop o).take 32 ++ ((d.drop (o + 32)).take 32 ++ (d.drop (o + 64)).take 1) := by
    rw [show (65 : Nat) = 32 + (32 + 1) from rfl, List.take_add, List.take_add, List.drop_drop, List.drop_drop]
  rw [s, e1, e2, e3]
  unfold resB resAt
  simp
theorem rows_flat {d : List UInt8} : ∀ k, 1 + 65 * k ≤ d.length → (rowsOf d k).flatMap resB = (d.drop 1).take (65 * k)
  | 0, _ => by simp [rowsOf]
  | k + 1, h => by
    rw [rowsOf_succ, List.flatMap_append, rows_flat k (by omega), show 65 * (k + 1) = 65 * k + 65 by omega, List.take_add, List.drop_drop]
    congr 1
    rw [List.flatMap_cons, List.flatMap_nil, List.append_nil, resB_at (by omega)]
theorem rows_byte (d : List UInt8) (k : Nat) : ∀ x ∈ rowsOf d k, inByte x := fun x hx => by
  obtain ⟨i, _, rfl⟩ := List.mem_map.1 hx
  have := (byteAt d (1 + 65 * i + 64)).toNat_lt
  unfold inByte resAt; simp only; omega
/-- What is taken is written just so. -/
theorem enc_par {d : List UInt8} {l : List Res} (h : parO d = some l) : encR l = d := by
  rw [par_tab] at h
  unfold tabO at h
  split at h
  · rename_i hh
    cases h
    obtain ⟨h0, h1, h2, _⟩ := hh
    rw [encR, rowsOf_len, rows_flat _ (by omega), numB_small (by omega), List.take_of_length_le (by rw [List.length_drop]; omega)]
    cases d with
    | nil => simp at h0
    | cons c d =>
      have e : headN (c :: d) = c.toNat := rfl
      rw [e]; simp
  · cases h
structure Enc (l : List Res) (e : List UInt8) : Prop where
  len : e.length = 1 + 65 * l.length
  head : headN e = l.length
  par : parO e = some l
  more : parO (e ++ [0]) = none
  less : parO (e.take (e.length - 1)) = none
theorem enc_of {l : List Res} (h : validR l = true) : Enc l (encR l) := by
  obtain ⟨h32, hf, hp⟩ := valid_iff.1 h
  have e1 : encR l = UInt8.ofNat l.length :: l.flatMap resB := by rw [encR, numB_small (by omega)]; rfl
  have hlen : (encR l).length = 1 + 65 * l.length := by rw [e1, List.length_cons, flat_len]; omega
  have hn : (UInt8.ofNat l.length).toNat = l.length := by simp only [UInt8.toNat_ofNat']; omega
  have hhead : headN (encR l) = l.length := by rw [e1]; exact hn
  have hrows : rowsOf (encR l) l.length = l := by
    refine flat_inj (rowsOf_len _ _) (rows_byte _ _) (fun x hx => fit_byte (hf x hx)) ?_
    rw [rows_flat _ (by omega), List.take_of_length_le (by rw [List.length_drop]; omega), e1]; rfl
  refine ⟨hlen, hhead, ?_, ?_, ?_⟩
  · rw [par_tab, tabO, hhead, hrows]
    exact if_pos ⟨by omega, h32, hlen, h⟩
  · have hh : headN (encR l ++ [0]) = l.length := by rw [← hhead, e1]; rfl
    rw [par_tab, tabO, hh, List.length_append]
    exact if_neg (fun hc => by have := hc.2.2.1; simp only [List.length_cons, List.length_nil] at this; omega)
  · rw [par_tab, tabO, List.length_take]
    refine if_neg (fun hc => ?_)
    obtain ⟨h1, h2, h3, h4⟩ := hc
    have hh : headN ((encR l).take ((encR l).length - 1)) = l.length := by
      have : (encR l).length - 1 = (encR l).length - 2 + 1 := by omega
      rw [this, e1, List.take_succ_cons]; exact hn
    rw [hh] at h3; omega
end Go.Proofs.Ytjdkeabimcajlaa
