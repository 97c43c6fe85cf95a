/- A check sum of 32 bits tells texts apart that differ in at most 32 bits side by side: plain. No program in sight. -/
import Derived.Test.YtkhplfgehcljmaaX
set_option linter.unusedVariables false
namespace Go.Proofs.Ytkhplfgehcljmaa

/-- A text as one number, the lowest byte first. -/
def numOf : List UInt8 → Nat
  | [] => 0
  | b :: r => b.toNat ^^^ (2 ^ 8 * numOf r)
theorem mul_xor (k a b : Nat) : 2 ^ k * (a ^^^ b) = 2 ^ k * a ^^^ 2 ^ k * b := by
  apply Nat.eq_of_testBit_eq
  intro i
  rw [Nat.testBit_xor, Nat.testBit_two_pow_mul, Nat.testBit_two_pow_mul, Nat.testBit_two_pow_mul, Nat.testBit_xor]
  cases decide (i ≥ k) <;> simp
theorem fold_crc (xs : List UInt8) : ∀ r, xs.foldl crcByte r = crcIt (8 * xs.length) (r ^^^ numOf xs) := by
  induction xs with
  | nil => intro r; simp [numOf, crcIt]
  | cons b xs ih =>
    intro r
    rw [List.foldl_cons, ih, List.length_cons, show 8 * (xs.length + 1) = 8 + 8 * xs.length by omega, crcIt_add, numOf, ← Nat.xor_assoc, crcIt_xor 8, crcIt_zeros]
    rfl
theorem numOf_set (xs : List UInt8) : ∀ (i : Nat) (x y : UInt8) (m : Nat), xs[i]? = some x → y.toNat = x.toNat ^^^ m → numOf (xs.set i y) = numOf xs ^^^ (2 ^ (8 * i) * m) := by
  induction xs with
  | nil => intro i x y m h; simp at h
  | cons b xs ih =>
    intro i x y m h hy
    cases i with
    | zero =>
      simp only [List.getElem?_cons_zero, Option.some.injEq] at h
      subst h
      rw [List.set_cons_zero, numOf, numOf, hy, Nat.mul_zero, Nat.pow_zero, Nat.one_mul, Nat.xor_assoc, Nat.xor_comm m, Nat.xor_assoc]
    | succ i =>
      simp only [List.getElem?_cons_succ] at h
      rw [List.set_cons_succ, numOf, numOf, ih i x y m h hy, mul_xor, Nat.xor_assoc, ← Nat.mul_assoc, ← Nat.pow_add, show 8 + 8 * i = 8 * (i + 1) by omega]
theorem crcBit_ne {r : Nat} (h : r < 4294967296) (h0 : r ≠ 0) : crcBit r ≠ 0 := by
  unfold crcBit
  split
  · intro e
    have e2 : r / 2 = 3988292384 := by
      have := congrArg (· ^^^ 3988292384) e
      simpa [Nat.xor_assoc] using this
    omega
  · omega
theorem crcIt_ne (k : Nat) : ∀ {r : Nat}, r < 4294967296 → r ≠ 0 → crcIt k r ≠ 0 := by
  induction k with
  | zero => intro r _ h0; exact h0
  | succ k ih => intro r h h0; exact ih (crcBit_lt h) (crcBit_ne h h0)
theorem crc_tells {xs ys : List UInt8} {p e : Nat} (hl : ys.length = xs.length) (hN : numOf ys = numOf xs ^^^ (2 ^ p * e)) (he : e ≠ 0) (he2 : e < 4294967296) (hp : p ≤ 8 * xs.length) : crc xs ≠ crc ys := by
  intro h
  have h1 := crcReg_lt xs
  have h2 := crcReg_lt ys
  have h3 : crcReg xs = crcReg ys := by unfold crc at h; omega
  unfold crcReg at h3
  rw [fold_crc, fold_crc, hl, hN, ← Nat.xor_assoc, crcIt_xor _ (4294967295 ^^^ numOf xs) (2 ^ p * e)] at h3
  have h4 : crcIt (8 * xs.length) (2 ^ p * e) = 0 := by
    have := congrArg (crcIt (8 * xs.length) (4294967295 ^^^ numOf xs) ^^^ ·) h3
    simp only [Nat.xor_self, ← Nat.xor_assoc, Nat.zero_xor] at this
    exact this.symm
  rw [show 8 * xs.length = p + (8 * xs.length - p) by omega, crcIt_add, crcIt_zeros] at h4
  exact crcIt_ne _ he2 he h4
/-- One bit more is turned. -/
theorem bit_more {e k : Nat} (h : e < 2 ^ k) : (e ^^^ 2 ^ k) ≠ 0 ∧ (e ^^^ 2 ^ k) < 2 ^ (k + 1) := by
  constructor
  · intro h0
    have : e = 2 ^ k := by
      have := congrArg (· ^^^ 2 ^ k) h0
      simpa [Nat.xor_assoc] using this
    omega
  · exact Nat.xor_lt_two_pow (by rw [Nat.pow_succ]; omega) (by rw [Nat.pow_succ]; have := Nat.two_pow_pos k; omega)
theorem turn_one {xs ys : List UInt8} {p k e i m : Nat} {x y : UInt8} (hN : numOf ys = numOf xs ^^^ (2 ^ p * e)) (hx : ys[i]? = some x) (hm : 8 * i + m = p + k) (hy : y.toNat = x.toNat ^^^ 2 ^ m) : numOf (ys.set i y) = numOf xs ^^^ (2 ^ p * (e ^^^ 2 ^ k)) := by
  rw [numOf_set ys i x y _ hx hy, hN, Nat.xor_assoc, mul_xor, ← Nat.pow_add, ← Nat.pow_add, hm]
end Go.Proofs.Ytkhplfgehcljmaa
