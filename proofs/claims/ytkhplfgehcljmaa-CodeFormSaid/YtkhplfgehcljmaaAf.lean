/- CodeBack, its first half: fit, and a script that is written; plain: what is read again. -/
import Derived.Test.YtkhplfgehcljmaaAe
set_option linter.unusedVariables false
set_option linter.unusedSimpArgs false
namespace Go.Proofs.Ytkhplfgehcljmaa
open Go.RowKit

def fitB (c : Cl) : Bool := if c.k = 1 then isNum c.v else if c.k = 2 then isFix c.v c.u else if c.k = 3 then true else decide (c.k = 4)
set_option maxHeartbeats 2000000 in
set_option maxRecDepth 100000 in
theorem fit_any (c : Cl) (a : Option Addr) (l cap : Nat) (w : World) :
    Calls Try.prog 33 #[clV c a l cap] w fun e w' => e = .returned (.bool (fitB c)) ∧ Keep [] w w' := by
  obtain ⟨ck, cv, cu, cd⟩ := c
  simp only [clV]
  by_cases k1 : ck = 1
  · subst k1
    have hf : fitB ⟨1, cv, cu, cd⟩ = isNum cv := by simp [fitB]
    rw [hf]
    by_cases h0 : 0 ≤ cv
    · by_cases h1 : cv ≤ 2147483647
      · have hi : isNum cv = true := by simp [isNum]; omega
        rw [hi]
        go_enter Try.func33, Try.ntmps33
        go_wp2_with fail
        go_returns
        exact ⟨rfl, (Keep.refl _ _).alloc _⟩
      · have hi : isNum cv = false := by simp [isNum]; omega
        rw [hi]
        go_enter Try.func33, Try.ntmps33
        go_wp2_with fail
        go_returns
        exact ⟨rfl, (Keep.refl _ _).alloc _⟩
    · have hi : isNum cv = false := by simp [isNum]; omega
      rw [hi]
      go_enter Try.func33, Try.ntmps33
      go_wp2_with fail
      go_returns
      exact ⟨rfl, (Keep.refl _ _).alloc _⟩
  · by_cases k2 : ck = 2
    · subst k2
      have hf : fitB ⟨2, cv, cu, cd⟩ = isFix cv cu := by simp [fitB]
      rw [hf]
      by_cases h1 : 1 ≤ cu
      · by_cases h2 : cu ≤ 4
        · by_cases h3 : 0 ≤ cv
          · obtain ⟨K, rfl⟩ : ∃ K : Nat, cu = K := ⟨cu.toNat, by omega⟩
            obtain ⟨V, rfl⟩ : ∃ V : Nat, cv = V := ⟨cv.toNat, by omega⟩
            have q1 : (0 : Int) ≤ 8 * (K : Int) := by omega
            have q2 : 8 * (K : Int) ≤ 32 := by omega
            have hi : isFix V K = (((V : Int) / 2 ^ (8 * K)) == 0) := by
              have hp : 0 < 2 ^ (8 * K) := Nat.pow_pos (by omega)
              have e1 : ((V : Int) / 2 ^ (8 * K)) = ((V / 2 ^ (8 * K) : Nat) : Int) := by push_cast; rfl
              rw [e1]
              simp only [isFix, Int.toNat_natCast]
              by_cases hlt : V < 2 ^ (8 * K)
              · rw [Nat.div_eq_of_lt hlt]
                have hlt' : (V : Int) < 2 ^ (8 * K) := by exact_mod_cast hlt
                simp [hlt']; omega
              · have h1 : 1 ≤ V / 2 ^ (8 * K) := (Nat.le_div_iff_mul_le hp).2 (by omega)
                have hlt' : ¬ (V : Int) < 2 ^ (8 * K) := by intro h; exact hlt (by exact_mod_cast h)
                have e2 : (((V / 2 ^ (8 * K) : Nat) : Int) == 0) = false := by simp only [beq_eq_false_iff_ne, ne_eq]; omega
                rw [e2]; simp [hlt']
            rw [hi]
            clear hi
            go_enter Try.func33, Try.ntmps33
            go_wp2_with fail
            go_returns
            exact ⟨rfl, (Keep.refl _ _).alloc _⟩
          · have hi : isFix cv cu = false := by simp [isFix]; omega
            rw [hi]
            go_enter Try.func33, Try.ntmps33
            go_wp2_with fail
            go_returns
            exact ⟨rfl, (Keep.refl _ _).alloc _⟩
        · have hi : isFix cv cu = false := by simp [isFix]; omega
          rw [hi]
          go_enter Try.func33, Try.ntmps33
          go_wp2_with fail
          go_returns
          exact ⟨rfl, (Keep.refl _ _).alloc _⟩
      · have hi : isFix cv cu = false := by simp [isFix]; omega
        rw [hi]
        go_enter Try.func33, Try.ntmps33
        go_wp2_with fail
        go_returns
        exact ⟨rfl, (Keep.refl _ _).alloc _⟩
    · have k1' : (ck == 1) = false := by simpa using k1
      have k2' : (ck == 2) = false := by simpa using k2
      by_cases k3 : ck = 3
      · have hf : fitB ⟨ck, cv, cu, cd⟩ = true := by simp [fitB, k1, k2, k3]
        rw [hf]
        subst k3
        go_enter Try.func33, Try.ntmps33
        go_wp2_with fail
        go_returns
        exact ⟨rfl, (Keep.refl _ _).alloc _⟩
      · have hf : fitB ⟨ck, cv, cu, cd⟩ = (ck == 4) := by rw [Bool.eq_iff_iff]; simp [fitB, k1, k2, k3]
        have k3' : (ck == 3) = false := by simpa using k3
        rw [hf]
        go_enter Try.func33, Try.ntmps33
        go_wp2_with fail
        go_returns
        exact ⟨rfl, (Keep.refl _ _).alloc _⟩

/-- A call that is not refused. -/
theorem cBad_fit {c : Cl} (h : fitB c = true) : cBad c = false := by
  unfold fitB at h
  unfold cBad
  by_cases k1 : c.k = 1
  · rw [if_pos k1] at h ⊢; simp [h]
  · rw [if_neg k1] at h ⊢
    by_cases k2 : c.k = 2
    · rw [if_pos k2] at h ⊢; simp [h]
    · rw [if_neg k2]
theorem cBad_no {c : Cl} (h : fitB c = false) (h1 : 1 ≤ c.k) (h4 : c.k ≤ 4) : cBad c = true := by
  unfold fitB at h
  unfold cBad
  by_cases k1 : c.k = 1
  · rw [if_pos k1] at h ⊢; simp [h]
  · rw [if_neg k1] at h ⊢
    by_cases k2 : c.k = 2
    · rw [if_pos k2] at h ⊢; simp [h]
    · rw [if_neg k2] at h ⊢
      by_cases k3 : c.k = 3
      · rw [if_pos k3] at h; cases h
      · rw [if_neg k3] at h; simp at h; omega
theorem cBytes_out {c : Cl} (h : c.k < 1 ∨ 4 < c.k) : cBytes c = [] := by
  unfold cBytes
  rw [if_neg (by omega), if_neg (by omega), if_neg (by omega), if_neg (by omega)]
theorem cBad_out {c : Cl} (h : c.k < 1 ∨ 4 < c.k) : cBad c = false := by
  unfold cBad
  rw [if_neg (by omega), if_neg (by omega)]
/-- All that a script writes. -/
def allB (cs : List Cl) : List UInt8 := cs.flatMap cBytes
theorem allB_take {cs : List Cl} {i : Nat} {c : Cl} (h : cs[i]? = some c) : allB (cs.take (i + 1)) = allB (cs.take i) ++ cBytes c := by
  rw [List.take_add_one, h]; simp [allB]
theorem allB_at {cs : List Cl} {i : Nat} {c : Cl} (h : cs[i]? = some c) : ∃ rest, (allB cs).drop (allB (cs.take i)).length = cBytes c ++ rest := by
  refine ⟨allB (cs.drop (i + 1)), ?_⟩
  have e : allB cs = allB (cs.take i) ++ (cBytes c ++ allB (cs.drop (i + 1))) := by
    have h1 : cs = cs.take i ++ (c :: cs.drop (i + 1)) := by
      have hi := (List.getElem?_eq_some_iff.1 h).1
      rw [List.getElem?_eq_getElem hi] at h
      have hc := Option.some.inj h
      rw [← hc, ← List.drop_eq_getElem_cons hi, List.take_append_drop]
    conv => lhs; rw [h1]
    simp [allB]
  rw [e, List.drop_left]
theorem allB_le (cs : List Cl) (i : Nat) : (allB (cs.take i)).length ≤ (allB cs).length := by
  have : allB cs = allB (cs.take i) ++ allB (cs.drop i) := by rw [allB, allB, allB, ← List.flatMap_append, List.take_append_drop]
  rw [this, List.length_append]; omega

/-- What was written is read. -/
theorem back_num {D rest : List UInt8} {A : Nat} {v : Int} (hA : D.drop A = numB v.toNat ++ rest) (hv : isNum v = true) : rNumber D ⟨0, 0, A⟩ = (v.toNat, ⟨0, 0, A + (numB v.toNat).length⟩) := by
  have hn : 0 ≤ v ∧ v ≤ 2147483647 := by simpa [isNum] using hv
  have := numP_numB (x := v.toNat) (by omega) rest
  unfold rNumber
  simp only [if_true, hA, this]
theorem drop_len {D xs rest : List UInt8} {A : Nat} (hA : D.drop A = xs ++ rest) (hx : xs ≠ []) : A + xs.length ≤ D.length := by
  have := congrArg List.length hA
  rw [List.length_drop, List.length_append] at this
  have : 0 < xs.length := List.length_pos_iff.2 hx
  omega
theorem back_fix {D rest : List UInt8} {A : Nat} {v u : Int} (hA : D.drop A = fixB v.toNat u.toNat ++ rest) (hv : isFix v u = true) : rFixed D ⟨0, 0, A⟩ u = (v.toNat, ⟨0, 0, A + u.toNat⟩) := by
  have hn : 1 ≤ u ∧ u ≤ 4 ∧ 0 ≤ v ∧ v < 2 ^ (8 * u.toNat) := by simpa [isFix] using hv
  have hl := drop_len hA (by intro e; have := congrArg List.length e; rw [fixB_len] at this; simp at this; omega)
  rw [fixB_len] at hl
  have hlt : v.toNat < 256 ^ u.toNat := by
    rw [← pow8]
    have h1 := hn.2.2.2
    have e1 : ((v.toNat : Nat) : Int) = v := Int.toNat_of_nonneg hn.2.2.1
    rw [← e1] at h1
    exact_mod_cast h1
  unfold rFixed
  simp only [if_true]
  rw [if_neg (by omega), if_neg (by omega), hA]
  have e2 : (fixB v.toNat u.toNat ++ rest).take u.toNat = fixB v.toNat u.toNat := by
    exact List.take_left' (fixB_len _ _)
  rw [e2, beVal_fixB, Nat.mod_eq_of_lt hlt]
theorem back_raw {D xs rest : List UInt8} {A : Nat} (hA : D.drop A = xs ++ rest) (hle : A ≤ D.length) : rRaw D ⟨0, 0, A⟩ (xs.length : Nat) = (xs, ⟨0, 0, A + xs.length⟩) := by
  have hl : A + xs.length ≤ D.length := by
    have := congrArg List.length hA
    rw [List.length_drop, List.length_append] at this; omega
  unfold rRaw
  simp only [if_true, Int.toNat_natCast]
  rw [if_neg (by omega), if_neg (by omega), hA, List.take_left]
theorem back_text {D xs rest : List UInt8} {A : Nat} {more : Int} (hA : D.drop A = textB xs ++ rest) (hm : 0 ≤ more) (hx : xs.length ≤ 2147483647) : rText D ⟨0, 0, A⟩ ((xs.length : Nat) + more) = (xs, ⟨0, 0, A + (textB xs).length⟩) := by
  have h1 := numP_numB hx (xs ++ rest)
  have hl := drop_len hA (by
    intro e
    have := congrArg List.length e
    rw [textB, List.length_append] at this
    have h2 := (numB_len5 hx).1
    simp only [List.length_nil] at this; omega)
  rw [textB, List.append_assoc] at hA
  rw [textB, List.length_append] at hl
  have hd : D.drop (A + (numB xs.length).length) = xs ++ rest := by
    rw [← List.drop_drop, hA, List.drop_left]
  unfold rText
  simp only [if_true]
  rw [if_neg (by omega), hA, h1]
  have ht : textC ((xs.length : Nat) + more) ((D.length : Int) - A) (xs.length, (numB xs.length).length, 0) = 0 := by
    simp only [textC, if_true]
    rw [if_neg (by omega), if_neg (by omega)]
  rw [if_pos ht]
  simp only
  rw [hd, List.take_left, textB, List.length_append, Nat.add_assoc]
end Go.Proofs.Ytkhplfgehcljmaa
