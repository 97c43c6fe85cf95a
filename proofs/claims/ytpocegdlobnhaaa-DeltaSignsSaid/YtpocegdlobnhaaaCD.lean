/- The number at the beginning of a row of bytes: what 'number' reads. -/
import Derived.Test.YtpocegdlobnhaaaCC
import Derived.WalkMore
import Derived.Deep.LoopGhost
import Derived.Laws.BitsAllLaws
set_option linter.unusedVariables false
set_option linter.unusedSimpArgs false
set_option maxRecDepth 100000
namespace Go.Proofs.Ytpocegdlobnhaaa.Cod
open Go.RowKit

/-- k rounds left, i bytes read, v so far: the number, how many bytes it has, an error. -/
def numGo (l : List UInt8) : Nat → Nat → Nat → Nat × Nat × Int
  | 0, _, _ => (0, 0, 11)
  | k + 1, i, v => match l[i]? with
    | none => (0, 0, 10)
    | some c => if c.toNat < 128 then (if v + c.toNat * 128 ^ i > 2147483647 ∨ (0 < i ∧ c = 0) then (0, 0, 11) else (v + c.toNat * 128 ^ i, i + 1, 0)) else numGo l k (i + 1) (v + c.toNat % 128 * 128 ^ i)
def numP (l : List UInt8) : Nat × Nat × Int := numGo l 5 0 0
/-- What comes of it. -/
structure NumOk (l : List UInt8) (r : Nat × Nat × Int) : Prop where
  ok : r.2.2 = 0 → r.1 ≤ 2147483647 ∧ 1 ≤ r.2.1 ∧ r.2.1 ≤ 5 ∧ r.2.1 ≤ l.length
  no : r.2.2 ≠ 0 → r.1 = 0 ∧ r.2.1 = 0 ∧ (r.2.2 = 10 ∨ r.2.2 = 11)
theorem numGo_ok (l : List UInt8) : ∀ k i v, k + i = 5 → NumOk l (numGo l k i v)
  | 0, i, v, _ => ⟨fun h => by simp [numGo] at h, fun _ => by simp [numGo]⟩
  | k + 1, i, v, h => by
    cases hc : l[i]? with
    | none => rw [numGo, hc]; exact ⟨fun h => by simp at h, fun _ => by simp⟩
    | some c =>
      have hi := (List.getElem?_eq_some_iff.1 hc).1
      rw [numGo, hc]
      simp only
      by_cases h1 : c.toNat < 128
      · rw [if_pos h1]
        by_cases h2 : v + c.toNat * 128 ^ i > 2147483647 ∨ (0 < i ∧ c = 0)
        · rw [if_pos h2]; exact ⟨fun h => by simp at h, fun _ => by simp⟩
        · rw [if_neg h2]; exact ⟨fun _ => ⟨by simp only; omega, by simp, by simp only; omega, by simp only; omega⟩, fun h => by simp at h⟩
      · rw [if_neg h1]; exact numGo_ok l k (i + 1) _ (by omega)
theorem numP_ok (l : List UInt8) : NumOk l (numP l) := numGo_ok l 5 0 0 rfl

theorem and_low (c : UInt8) : bits .and .u8 ((c.toNat : Nat) : Int) 127 = ((c.toNat % 128 : Nat) : Int) := by
  have := u8_and_nat c.toNat 127 c.toNat_lt (by omega)
  rw [show (127 : Nat) = 2 ^ 7 - 1 from rfl, Nat.and_two_pow_sub_one_eq_mod] at this
  exact this
theorem or_next (v r i : Nat) (hv : v < 128 ^ i) (hr : r < 128) (hi : i ≤ 4) : bits .or .i64 (v : Int) ((r * 128 ^ i : Nat) : Int) = ((v + r * 128 ^ i : Nat) : Int) := by
  have hp : (128 : Nat) ^ i = 2 ^ (7 * i) := by rw [Nat.pow_mul]
  have h4 : (128 : Nat) ^ i ≤ 128 ^ 4 := Nat.pow_le_pow_right (by omega) hi
  have h5 : r * 128 ^ i ≤ 127 * 128 ^ 4 := Nat.mul_le_mul (by omega) h4
  rw [i64_or_nat v _ (by omega) (by omega)]
  rw [hp] at hv ⊢
  have := Nat.two_pow_add_eq_or_of_lt hv r
  rw [Nat.or_comm, Nat.mul_comm r, ← this, Nat.add_comm]

set_option maxHeartbeats 2000000 in
set_option maxRecDepth 100000 in
theorem num_any (a : Option Addr) (n c : Nat) (xs : List UInt8) (w : World) (hl : xs.length = n) (hn : n ≤ 140737488355328) (hrd : Rd w a (bs xs)) :
    Calls Try.prog 111 #[.slice a n c] w fun e w' => e = .returned (.tuple #[.int .i64 (numP xs).1, .int .i64 (numP xs).2.1, .int .i64 (numP xs).2.2]) ∧ w' = w := by
  have HL := Lib.hid hl
  clear hl
  go_enter Try.func111, Try.ntmps111
  go_wp2_with fail
  go_step3
  go_wp2_with fail
  go_step3
  go_wp2_with fail
  go_loop [2, 3] (fun v2 v3 => ∃ i v : Nat, v2 = .int .i64 v ∧ v3 = .int .i64 i ∧ i ≤ 5 ∧ i ≤ n ∧ v < 128 ^ i ∧ Hid (numP xs = numGo xs (5 - i) i v)) (fun _ v3 => 6 - (intOf v3).toNat)
  case atStart => exact ⟨0, 0, rfl, rfl, by omega, by omega, by omega, Lib.hid rfl⟩
  case round =>
    obtain ⟨i, v, rfl, rfl, hi, hin, hv, HP⟩ := hrel
    by_cases h5 : i = 5
    · subst h5
      go_wp2_with fail
      try rw [Exit.noGoto_ret]
      go_returns
      exact ⟨by rw [HP.out]; rfl, rfl⟩
    · by_cases hlt : i = n
      · subst hlt
        have g1 : ((i : Int) == 5) = false := by simp; omega
        go_wp2_with fail
        try rw [Exit.noGoto_ret]
        go_returns
        have e : numGo xs (5 - i) i v = (0, 0, 10) := by
          obtain ⟨k, hk⟩ : ∃ k, 5 - i = k + 1 := ⟨4 - i, by omega⟩
          rw [hk, numGo, List.getElem?_eq_none (by have := HL.out; omega)]
        refine ⟨?_, rfl⟩
        rw [HP.out, e]; rfl
      · have hi4 : i ≤ 4 := by omega
        have hin' : i < n := by omega
        obtain ⟨x, hx⟩ : ∃ x, xs[i]? = some x := ⟨_, List.getElem?_eq_getElem (by have := HL.out; omega)⟩
        obtain ⟨b, off, rfl, hcell⟩ := hrd.byte (k := i) (by have := HL.out; omega)
        have hxx : xs[i]'(by have := HL.out; omega) = x := by
          rw [List.getElem?_eq_getElem (by have := HL.out; omega)] at hx; exact Option.some.inj hx
        rw [hxx] at hcell
        have g1 : ((i : Int) == 5) = false := by simp; omega
        have g2 : ((i : Int) == n) = false := by simp; omega
        have hstep : numGo xs (5 - i) i v = (if x.toNat < 128 then (if v + x.toNat * 128 ^ i > 2147483647 ∨ (0 < i ∧ x = 0) then (0, 0, 11) else (v + x.toNat * 128 ^ i, i + 1, 0)) else numGo xs (5 - (i + 1)) (i + 1) (v + x.toNat % 128 * 128 ^ i)) := by
          obtain ⟨k, hk⟩ : ∃ k, 5 - i = k + 1 := ⟨4 - i, by omega⟩
          rw [hk, numGo, hx, show 5 - (i + 1) = k by omega]
        have HS := Lib.hid hstep
        have HX := Lib.hid hx
        have hx8 := x.toNat_lt
        have q0 : 7 * (i : Int) ≤ 28 := by omega
        have q1 : 0 ≤ 7 * (i : Int) := by omega
        have hA0 := and_low x
        have hq0 := or_next v (x.toNat % 128) i hv (Nat.mod_lt _ (by omega)) hi4
        obtain ⟨A, hA⟩ : ∃ A : Nat, x.toNat % 128 = A := ⟨_, rfl⟩
        have hA1 : A < 128 := by omega
        rw [hA] at hA0 hq0
        have hp : (A : Int) * 2 ^ (7 * i) = ((A * 128 ^ i : Nat) : Int) := by
          push_cast; rw [Int.pow_mul]; rfl
        have hp5 : A * 128 ^ i ≤ 127 * 128 ^ 4 := Nat.mul_le_mul (by omega) (Nat.pow_le_pow_right (by omega) hi4)
        have hv5 : 128 ^ i ≤ 128 ^ 4 := Nat.pow_le_pow_right (by omega) hi4
        have hvn : v + A * 128 ^ i < 128 ^ (i + 1) := by
          have : (A + 1) * 128 ^ i ≤ 128 * 128 ^ i := Nat.mul_le_mul_right _ (by omega)
          rw [Nat.add_mul, Nat.one_mul] at this
          rw [Nat.pow_succ]; omega
        obtain ⟨p, hpp⟩ : ∃ p : Nat, A * 128 ^ i = p := ⟨_, rfl⟩
        obtain ⟨q, hqq⟩ : ∃ q : Nat, v + p = q := ⟨_, rfl⟩
        rw [hpp] at hp hq0 hp5 hvn
        rw [hqq] at hq0 hvn
        have hq5 : q ≤ 34359738368 := by omega
        have hp6 : p ≤ 34359738368 := by omega
        have HA := Lib.hid hA
        have HPP := Lib.hid hpp
        have HQQ := Lib.hid hqq
        have HV := Lib.hid hv
        have HVN := Lib.hid hvn
        clear hstep hx hxx h5 hlt hA hpp hqq hv hvn hv5 hp5
        by_cases hc : x.toNat < 128
        · have hqe : v + x.toNat * 128 ^ i = q := by
            rw [← HQQ.out, ← HPP.out, ← HA.out, Nat.mod_eq_of_lt hc]
          have hres : numP xs = if q > 2147483647 ∨ (0 < i ∧ x = 0) then (0, 0, 11) else (q, i + 1, 0) := by
            rw [HP.out, HS.out, if_pos hc, hqe]
          have HR := Lib.hid hres
          clear hres hqe
          by_cases c1 : 2147483647 < q
          · go_wp2_with fail
            try rw [Exit.noGoto_ret]
            go_returns
            refine ⟨?_, rfl⟩
            rw [HR.out, if_pos (Or.inl c1)]; rfl
          · by_cases c2 : 0 < i
            · by_cases c3 : x = 0
              · have c4 : (((x.toNat : Nat) : Int) == 0) = true := by rw [c3]; rfl
                have hne := HR.out
                rw [if_pos (Or.inr ⟨c2, c3⟩)] at hne
                have HR := Lib.hid hne
                clear hne c3
                go_wp2_with fail
                try rw [Exit.noGoto_ret]
                go_returns
                refine ⟨?_, rfl⟩
                rw [HR.out]; rfl
              · have c4 : (((x.toNat : Nat) : Int) == 0) = false := by
                  simp only [beq_eq_false_iff_ne, ne_eq]
                  intro h; exact c3 (UInt8.toNat_inj.1 (by simp; omega))
                have hne := HR.out
                rw [if_neg (by rintro (h | h); exact c1 h; exact c3 h.2)] at hne
                have HR := Lib.hid hne
                clear hne c3
                go_wp2_with fail
                try rw [Exit.noGoto_ret]
                go_returns
                refine ⟨?_, rfl⟩
                rw [HR.out]; rfl
            · have hne := HR.out
              rw [if_neg (by rintro (h | h); exact c1 h; exact c2 h.1)] at hne
              have HR := Lib.hid hne
              clear hne
              go_wp2_with fail
              try rw [Exit.noGoto_ret]
              go_returns
              refine ⟨?_, rfl⟩
              rw [HR.out]; rfl
        · have hne := HS.out
          rw [if_neg hc, HA.out, HPP.out, HQQ.out] at hne
          have HS := Lib.hid hne
          clear hne
          go_wp2_with fail
          refine ⟨⟨i + 1, q, rfl, by go_num, by omega, by omega, HVN.out, Lib.hid (HP.out.trans HS.out)⟩, by simp [intOf]; omega⟩
end Go.Proofs.Ytpocegdlobnhaaa.Cod
