/- What is written is read, what is read is written: numbers and bytes, plain. -/
import Derived.Test.YtkhplfgehcljmaaAd
set_option linter.unusedVariables false
namespace Go.Proofs.Ytkhplfgehcljmaa

theorem numGo_numB (rest : List UInt8) : ∀ (k x i v : Nat) (pre : List UInt8), pre.length = i → x < 128 ^ k → v + x * 128 ^ i ≤ 2147483647 → ((i = 0 ∧ 0 < k) ∨ 0 < x) → numGo (pre ++ (numB x ++ rest)) k i v = (v + x * 128 ^ i, i + (numB x).length, 0)
  | 0, x, i, v, pre, _, hx, _, h0 => by
    have : x = 0 := by simp at hx; exact hx
    omega
  | k + 1, x, i, v, pre, hp, hx, hm, h0 => by
    have hx8 : 128 ^ (k + 1) = 128 ^ k * 128 := Nat.pow_succ ..
    by_cases h : x < 128
    · rw [numB_small h]
      have hg : (pre ++ ([UInt8.ofNat x] ++ rest))[i]? = some (UInt8.ofNat x) := by
        rw [List.getElem?_append_right (by omega), hp, Nat.sub_self]; rfl
      have hn : (UInt8.ofNat x).toNat = x := by simp; omega
      rw [numGo, hg]
      simp only [hn]
      rw [if_pos h, if_neg]
      · simp
      · rintro (h1 | ⟨h1, h2⟩)
        · omega
        · have := congrArg UInt8.toNat h2
          rw [hn] at this
          simp at this
          omega
    · rw [numB_big h]
      have hg : (pre ++ ((UInt8.ofNat (x % 128 + 128) :: numB (x / 128)) ++ rest))[i]? = some (UInt8.ofNat (x % 128 + 128)) := by
        rw [List.getElem?_append_right (by omega), hp, Nat.sub_self]; rfl
      have hn : (UInt8.ofNat (x % 128 + 128)).toNat = x % 128 + 128 := by simp; omega
      have e1 : x * 128 ^ i = x % 128 * 128 ^ i + x / 128 * 128 ^ (i + 1) := by
        rw [Nat.pow_succ, Nat.mul_comm (128 ^ i) 128, ← Nat.mul_assoc, ← Nat.add_mul]
        congr 1; omega
      rw [numGo, hg]
      simp only [hn]
      rw [if_neg (by omega)]
      have e2 : (x % 128 + 128) % 128 = x % 128 := by omega
      rw [e2]
      have := numGo_numB rest k (x / 128) (i + 1) (v + x % 128 * 128 ^ i) (pre ++ [UInt8.ofNat (x % 128 + 128)]) (by simp [hp]) (by rw [Nat.div_lt_iff_lt_mul (by omega)]; omega) (by rw [e1] at hm; omega) (Or.inr (by omega))
      rw [List.append_assoc] at this
      rw [List.cons_append, show pre ++ UInt8.ofNat (x % 128 + 128) :: (numB (x / 128) ++ rest) = pre ++ ([UInt8.ofNat (x % 128 + 128)] ++ (numB (x / 128) ++ rest)) from rfl, this]
      simp only [List.length_cons, Prod.mk.injEq]
      refine ⟨by rw [e1]; omega, by omega, trivial⟩
theorem numP_numB {x : Nat} (h : x ≤ 2147483647) (rest : List UInt8) : numP (numB x ++ rest) = (x, (numB x).length, 0) := by
  have := numGo_numB rest 5 x 0 0 [] rfl (by omega) (by simpa using h) (Or.inl ⟨rfl, by omega⟩)
  simpa [numP] using this

theorem numGo_back (l : List UInt8) : ∀ (k i v r n : Nat), numGo l k i v = (r, n, 0) → ∃ x, l.drop i = numB x ++ l.drop n ∧ r = v + x * 128 ^ i ∧ n = i + (numB x).length ∧ (0 < i → 0 < x)
  | 0, i, v, r, n, h => by simp [numGo] at h
  | k + 1, i, v, r, n, h => by
    cases hc : l[i]? with
    | none => rw [numGo, hc] at h; simp at h
    | some c =>
      have hi := (List.getElem?_eq_some_iff.1 hc).1
      have hd : l.drop i = c :: l.drop (i + 1) := by
        rw [List.drop_eq_getElem_cons hi]
        rw [List.getElem?_eq_getElem hi] at hc
        rw [Option.some.inj hc]
      rw [numGo, hc] at h
      simp only at h
      by_cases h1 : c.toNat < 128
      · rw [if_pos h1] at h
        by_cases h2 : v + c.toNat * 128 ^ i > 2147483647 ∨ (0 < i ∧ c = 0)
        · rw [if_pos h2] at h; simp at h
        · rw [if_neg h2] at h
          simp only [Prod.mk.injEq] at h
          obtain ⟨rfl, rfl, _⟩ := h
          refine ⟨c.toNat, ?_, rfl, by rw [numB_small h1]; rfl, fun h0 => ?_⟩
          · rw [numB_small h1, hd]; simp
          · rcases Nat.eq_zero_or_pos c.toNat with hz | hz
            · exact absurd (Or.inr ⟨h0, UInt8.toNat_inj.1 (by simpa using hz)⟩) h2
            · exact hz
      · rw [if_neg h1] at h
        obtain ⟨x, e1, e2, e3, e4⟩ := numGo_back l k (i + 1) _ r n h
        have hx := e4 (by omega)
        have c8 := c.toNat_lt
        have hb : ¬ c.toNat % 128 + 128 * x < 128 := by omega
        have hnb : numB (c.toNat % 128 + 128 * x) = c :: numB x := by
          rw [numB_big hb]
          have q1 : (c.toNat % 128 + 128 * x) % 128 + 128 = c.toNat := by omega
          have q2 : (c.toNat % 128 + 128 * x) / 128 = x := by omega
          rw [q1, q2]; simp
        refine ⟨c.toNat % 128 + 128 * x, ?_, ?_, ?_, fun _ => by omega⟩
        · rw [hnb, hd, e1]; rfl
        · rw [e2, Nat.pow_succ, Nat.add_mul, Nat.mul_comm (128 ^ i) 128, ← Nat.mul_assoc, Nat.mul_comm x 128]; omega
        · rw [hnb, e3]; simp; omega
/-- What 'number' took is just what is written of it. -/
theorem numP_back {l : List UInt8} {r n : Nat} (h : numP l = (r, n, 0)) : numB r = l.take n ∧ r ≤ 2147483647 ∧ n ≤ l.length := by
  have hok := numP_ok l
  rw [h] at hok
  have hk := hok.ok rfl
  obtain ⟨x, e1, e2, e3, _⟩ := numGo_back l 5 0 0 r n h
  simp only [List.drop_zero, Nat.pow_zero, Nat.mul_one, Nat.zero_add] at e1 e2 e3
  subst e2
  refine ⟨?_, hk.1, hk.2.2.2⟩
  have := congrArg (List.take n) e1
  rw [this, e3, List.take_left]

theorem beVal_cons (x : UInt8) (l : List UInt8) : beVal (x :: l) = x.toNat * 256 ^ l.length + beVal l := by
  have gen : ∀ (l : List UInt8) (a : Nat), l.foldl (fun v c => v * 256 + c.toNat) a = a * 256 ^ l.length + l.foldl (fun v c => v * 256 + c.toNat) 0 := by
    intro l
    induction l with
    | nil => intro a; simp
    | cons y l ih =>
      intro a
      rw [List.foldl_cons, List.foldl_cons, ih, ih (0 * 256 + y.toNat), List.length_cons, Nat.pow_succ, Nat.add_mul, Nat.zero_mul, Nat.zero_add, Nat.mul_comm (256 ^ l.length) 256, Nat.mul_assoc]; omega
  simp only [beVal, List.foldl_cons, Nat.zero_mul, Nat.zero_add]
  exact gen l x.toNat
theorem pow8 (n : Nat) : 2 ^ (8 * n) = 256 ^ n := by rw [Nat.pow_mul]
theorem beVal_fixB (V : Nat) : ∀ K, beVal (fixB V K) = V % 256 ^ K
  | 0 => by simp [fixB, beVal, Nat.mod_one]
  | K + 1 => by
    rw [fixB, beVal_cons, fixB_len, beVal_fixB V K, pow8]
    have h1 : (UInt8.ofNat (V / 256 ^ K)).toNat = V / 256 ^ K % 256 := by simp
    rw [h1, Nat.pow_succ, Nat.mod_mul]
    rw [Nat.mul_comm]; omega
theorem fixB_mod (V : Nat) (K : Nat) : ∀ j, j ≤ K → fixB (V % 256 ^ K) j = fixB V j
  | 0, _ => rfl
  | j + 1, h => by
    rw [fixB, fixB, fixB_mod V K j (by omega), pow8]
    congr 1
    apply UInt8.toNat_inj.1
    simp only [UInt8.toNat_ofNat']
    obtain ⟨m, rfl⟩ : ∃ m, K = j + 1 + m := ⟨K - (j + 1), by omega⟩
    have e : 256 ^ (j + 1 + m) = 256 ^ j * (256 * 256 ^ m) := by rw [Nat.pow_add, Nat.pow_succ, Nat.mul_assoc]
    rw [e, Nat.mod_mul_right_div_self]
    exact Nat.mod_mul_right_mod _ _ _
theorem fixB_beVal (l : List UInt8) : fixB (beVal l) l.length = l := by
  induction l with
  | nil => rfl
  | cons x l ih =>
    have hlt := beVal_lt l.length l rfl
    rw [List.length_cons, fixB, beVal_cons, pow8]
    have e1 : (x.toNat * 256 ^ l.length + beVal l) / 256 ^ l.length = x.toNat := by
      rw [Nat.add_comm, Nat.add_mul_div_right _ _ (Nat.pow_pos (by omega)), Nat.div_eq_of_lt hlt, Nat.zero_add]
    rw [e1]
    have e2 : fixB (x.toNat * 256 ^ l.length + beVal l) l.length = l := by
      rw [← fixB_mod _ l.length l.length (Nat.le_refl _), Nat.add_comm, Nat.add_mul_mod_self_right, Nat.mod_eq_of_lt hlt, ih]
    rw [e2]; simp
end Go.Proofs.Ytkhplfgehcljmaa
