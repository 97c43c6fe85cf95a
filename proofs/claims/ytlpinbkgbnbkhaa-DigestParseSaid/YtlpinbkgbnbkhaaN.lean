/- DigestParse: the walk. -/
import Derived.Test.YtlpinbkgbnbkhaaJ
import Derived.Test.YtlpinbkgbnbkhaaL
set_option linter.unusedVariables false
set_option linter.unusedSimpArgs false
namespace Go.Proofs.Ytlpinbkgbnbkhaa
open Go.RowKit

theorem dig_valD (x : UInt8) (h : 0 ≤ valD x) : dig (valD x).toNat = x := by
  have key : ∀ n : Fin 256, 0 ≤ valD (UInt8.ofNat n.val) → dig (valD (UInt8.ofNat n.val)).toNat = UInt8.ofNat n.val := by decide +kernel
  have e : UInt8.ofNat x.toNat = x := by simp
  have := key ⟨x.toNat, x.toNat_lt⟩
  simp only [e] at this
  exact this h
theorem hex_ids {s : List UInt8} (h : good s = true) : hexOf (idsOf s) = s := by
  rw [good, Bool.and_eq_true, decide_eq_true_eq] at h
  obtain ⟨hl, hd⟩ := h
  have hd := digitsTo_iff.1 hd
  apply List.ext_getElem?
  intro k
  by_cases hk : k < 64
  · obtain ⟨q1, q2⟩ := hd (k / 2) (by omega)
    have b1 := valD_le (s.getD (2 * (k / 2)) 0)
    have b2 := valD_le (s.getD (2 * (k / 2) + 1) 0)
    have p1 : 0 ≤ valD (s.getD (2 * (k / 2)) 0) := q1
    have p2 : 0 ≤ valD (s.getD (2 * (k / 2) + 1) 0) := q2
    obtain ⟨e1, e2⟩ := hexOf_get (idsOf_get s (show k / 2 < 32 by omega))
    have et : (UInt8.ofNat (16 * hiD s (k / 2) + loD s (k / 2)).toNat).toNat = (16 * hiD s (k / 2) + loD s (k / 2)).toNat := by
      rw [UInt8.toNat_ofNat']
      unfold hiD loD at *
      omega
    rw [et] at e1 e2
    have d1 : (16 * hiD s (k / 2) + loD s (k / 2)).toNat / 16 = (valD (s.getD (2 * (k / 2)) 0)).toNat := by unfold hiD loD at *; omega
    have d2 : (16 * hiD s (k / 2) + loD s (k / 2)).toNat % 16 = (valD (s.getD (2 * (k / 2) + 1) 0)).toNat := by unfold hiD loD at *; omega
    rw [d1, dig_valD _ p1] at e1
    rw [d2, dig_valD _ p2] at e2
    rcases Nat.mod_two_eq_zero_or_one k with hm | hm
    · have hk2 : 2 * (k / 2) = k := by omega
      rw [hk2] at e1
      rw [e1, List.getD_eq_getElem?_getD, List.getElem?_eq_getElem (by omega)]; rfl
    · have hk2 : 2 * (k / 2) + 1 = k := by omega
      rw [hk2] at e2
      rw [e2, List.getD_eq_getElem?_getD, List.getElem?_eq_getElem (by omega)]; rfl
  · rw [List.getElem?_eq_none (by rw [hexOf_length, idsOf_length]; omega), List.getElem?_eq_none (by omega)]

set_option maxHeartbeats 8000000 in
set_option maxRecDepth 100000 in
theorem digestParse_walk (t : ByteArray) (w : World) (ht : t.size ≤ 140737488351232) :
    Calls Try.prog 6 #[.string t] w fun e w' => e = .returned (.bool true) ∧ Keep [] w w' := by
  obtain ⟨s, hs⟩ : ∃ s, strOf s = t := ⟨t.data.toList, by cases t; simp [strOf]⟩
  have hsl : s.length ≤ 9223372036854775807 := by
    have : t.size = s.length := by rw [← hs]; simp [strOf, ByteArray.size]
    omega
  subst hs
  clear ht
  obtain ⟨E, hE⟩ : ∃ E, parseE s = E := ⟨_, rfl⟩
  obtain ⟨I, hI⟩ : ∃ I, parseId s = I := ⟨_, rfl⟩
  have Il : I.length = 32 := by rw [← hI]; exact parseId_length s
  have hp := fun w => parse_any s s.length w rfl hsl
  have hr := fun w => refParse_any s s.length w rfl hsl
  rw [hE, hI] at hp hr
  have hcase : (E = 20 ∧ good s = false) ∨ (E = 0 ∧ hexOf I = s) := by
    rw [← hE, ← hI, parseE, parseId]
    cases hg : good s with
    | false => exact Or.inl ⟨rfl, rfl⟩
    | true => exact Or.inr ⟨rfl, hex_ids hg⟩
  have eqI : ∀ W, (Op.equalIn 10000 33 (.agg (bs I).toArray) (.agg (bs I).toArray)).run Try.prog W = .ok true W := fun W => by
    have := run_equalIn_bytes (P := Try.prog) W 9998 33 5 32 Try.underlying33 Try.underlying5 (fun w => Try.sizeOf5 w) I I Il Il
    rw [beq_self_eq_true] at this
    exact this
  have HSZ := Lib.hid (size32 I Il)
  have HP := Lib.hid hp
  have HR := Lib.hid hr
  have HIL := Lib.hid Il
  clear hE hI hp hr Il
  obtain ⟨T, hT⟩ : ∃ T, strOf s = T := ⟨_, rfl⟩
  rw [hT] at HP HR
  rw [hT]
  have HT := Lib.hid hT
  clear hT
  go_enter Try.func6, Try.ntmps6
  go_upto_region 3 with (first
    | (go_at_call 24; refine (HP.out _).mono ?_; rintro e w1 ⟨rfl, hk1⟩)
    | (go_at_call 26; refine (HR.out _).mono ?_; rintro e w2 ⟨rfl, hk2⟩)
    | (refine wpList_store_last rfl 33 (.tmp 3) (.tmp 10) rfl _ _ (bs I).toArray rfl rfl rfl (by rw [HSZ.out]; rfl) (by rw [HSZ.out]; rfl) (bs_all I) ?_)
    | (refine wpList_store_last rfl 33 (.tmp 5) (.tmp 15) rfl _ _ (bs I).toArray rfl rfl rfl (by rw [HSZ.out]; rfl) (by rw [HSZ.out]; rfl) (bs_all I) ?_)
    | fail)
  have B1 : Blk (w1.alloc (.cells (bs I).toArray 33)) w1.heap.size (bs I).toArray 33 := Blk.new w1 _ 33
  have kA : Keep [] w (w1.alloc (.cells (bs I).toArray 33)) := hk1.alloc _
  have kB : Keep [] (w1.alloc (.cells (bs I).toArray 33)) (w2.alloc (.cells (bs I).toArray 33)) := hk2.alloc _
  have B2 : Blk (w2.alloc (.cells (bs I).toArray 33)) w2.heap.size (bs I).toArray 33 := Blk.new w2 _ 33
  have B1' := B1.keep kB (by simp)
  have kC := kA.trans' kB
  obtain ⟨W2, hW2⟩ : ∃ W, w2.alloc (.cells (bs I).toArray 33) = W := ⟨_, rfl⟩
  obtain ⟨P1, hP1⟩ : ∃ P, w1.heap.size = P := ⟨_, rfl⟩
  obtain ⟨P2, hP2⟩ : ∃ P, w2.heap.size = P := ⟨_, rfl⟩
  rw [hW2] at B2 B1' kC ⊢
  rw [hP2] at B2
  rw [hP1] at B1'
  simp only [hP1, hP2]
  clear hW2 hP1 hP2 B1 kA kB hk1 hk2
  have hee : (E != E) = false := by simp
  go_upto_if 28 with (first
    | (go_at_call 13; refine (known_any W2).mono ?_; rintro e w3 ⟨rfl, hk3⟩
       have C1 := B1'.keep hk3 (by simp)
       have C2 := B2.keep hk3 (by simp))
    | (refine wpList_load_row_w 33 (.tmp 3) rfl rfl P1 rfl 33 (bs I).toArray (0, 0) _ C1 Try.underlying33 rfl (by rw [HSZ.out]; rfl) ?_)
    | (refine wpList_load_row_w 33 (.tmp 5) rfl rfl P2 rfl 33 (bs I).toArray (0, 0) _ C2 Try.underlying33 rfl (by rw [HSZ.out]; rfl) ?_)
    | fail)
  rcases hcase with ⟨rfl, -⟩ | ⟨rfl, hx⟩
  · go_wp2_with fail
    go_returns
    exact ⟨rfl, kC.trans' hk3⟩
  · have hhex : ∀ W, Calls Try.prog 23 #[.agg (bs I).toArray] W fun e w' => e = .returned (.string T) ∧ Keep [] W w' := fun W => by
      have := hex_any I W HIL.out
      rwa [hx, HT.out] at this
    have HH := Lib.hid hhex
    clear hhex hx
    go_wp2_with (first
      | (refine wpList_load_row_w 33 (.tmp 3) rfl rfl P1 rfl 33 (bs I).toArray (0, 0) _ C1 Try.underlying33 rfl (by rw [HSZ.out]; rfl) ?_)
      | (go_at_call 23; refine (HH.out _).mono ?_; rintro e w4 ⟨rfl, hk4⟩)
      | fail)
    go_returns
    exact ⟨rfl, (kC.trans' hk3).trans' hk4⟩
end Go.Proofs.Ytlpinbkgbnbkhaa
