/- A check sum of 32 bits, plain: bit by bit, and four bits at once. No program in sight. -/
import Derived.Test.YtkhplfgehcljmaaU
set_option linter.unusedVariables false
namespace Go.Proofs.Ytkhplfgehcljmaa

/-- One bit goes out. -/
def crcBit (r : Nat) : Nat := if r % 2 = 1 then r / 2 ^^^ 3988292384 else r / 2
def crcIt : Nat → Nat → Nat
  | 0, r => r
  | k + 1, r => crcIt k (crcBit r)
theorem crcIt_succ (k r : Nat) : crcIt (k + 1) r = crcBit (crcIt k r) := by
  induction k generalizing r with
  | zero => rfl
  | succ k ih => rw [crcIt, ih]; rfl
theorem crcIt_add (j k r : Nat) : crcIt (j + k) r = crcIt k (crcIt j r) := by
  induction j generalizing r with
  | zero => simp [crcIt]
  | succ j ih => rw [show j + 1 + k = (j + k) + 1 by omega, crcIt, crcIt, ih]
theorem crcBit_xor (a b : Nat) : crcBit (a ^^^ b) = crcBit a ^^^ crcBit b := by
  have h := Nat.xor_mod_two_eq_one (a := a) (b := b)
  have hd : (a ^^^ b) / 2 = a / 2 ^^^ b / 2 := Nat.xor_div_two
  unfold crcBit
  by_cases ha : a % 2 = 1
  · by_cases hb : b % 2 = 1
    · rw [if_neg (by rw [h]; simp [ha, hb]), if_pos ha, if_pos hb, hd]
      rw [Nat.xor_assoc, Nat.xor_comm 3988292384, Nat.xor_assoc, Nat.xor_self, Nat.xor_zero]
    · rw [if_pos (by rw [h]; simp [ha, hb]), if_pos ha, if_neg hb, hd]
      rw [Nat.xor_assoc, Nat.xor_assoc, Nat.xor_comm 3988292384]
  · by_cases hb : b % 2 = 1
    · rw [if_pos (by rw [h]; simp [ha, hb]), if_neg ha, if_pos hb, hd, Nat.xor_assoc]
    · rw [if_neg (by rw [h]; simp [ha, hb]), if_neg ha, if_neg hb, hd]
theorem crcIt_xor (k a b : Nat) : crcIt k (a ^^^ b) = crcIt k a ^^^ crcIt k b := by
  induction k generalizing a b with
  | zero => rfl
  | succ k ih => rw [crcIt, crcBit_xor, ih]; rfl
theorem crcBit_even (q : Nat) : crcBit (2 * q) = q := by
  unfold crcBit
  rw [if_neg (by omega)]; omega
theorem crcIt_zeros (k q : Nat) : crcIt k (2 ^ k * q) = q := by
  induction k generalizing q with
  | zero => simp [crcIt]
  | succ k ih => rw [crcIt, Nat.pow_succ, Nat.mul_comm (2 ^ k) 2, Nat.mul_assoc, crcBit_even, ih]
theorem split16 (r : Nat) : r = 16 * (r / 16) ^^^ r % 16 := by
  have h : r % 16 < 2 ^ 4 := Nat.mod_lt _ (by omega)
  have h1 := Nat.two_pow_add_eq_or_of_lt h (r / 16)
  have h2 : 2 ^ 4 * (r / 16) ||| r % 16 = 2 ^ 4 * (r / 16) ^^^ r % 16 := by
    apply Nat.eq_of_testBit_eq
    intro i
    rw [Nat.testBit_or, Nat.testBit_xor]
    by_cases hi : i < 4
    · have : (2 ^ 4 * (r / 16)).testBit i = false := by
        rw [Nat.testBit_two_pow_mul]; simp; omega
      rw [this]; simp
    · have : (r % 16).testBit i = false := Nat.testBit_lt_two_pow (Nat.lt_of_lt_of_le h (Nat.pow_le_pow_right (by omega) (by omega)))
      rw [this]; simp
  have h3 : 16 * (r / 16) + r % 16 = r := Nat.div_add_mod r 16
  rw [show (2 : Nat) ^ 4 = 16 from rfl] at h1 h2
  omega
theorem crc_four (r : Nat) : crcIt 4 r = r / 16 ^^^ crcIt 4 (r % 16) := by
  have h := crcIt_zeros 4 (r / 16)
  have e : crcIt 4 r = crcIt 4 (16 * (r / 16) ^^^ r % 16) := by rw [← split16]
  rw [e, crcIt_xor]
  congr 1
theorem crcBit_lt {r : Nat} (h : r < 4294967296) : crcBit r < 4294967296 := by
  unfold crcBit
  split
  · exact Nat.xor_lt_two_pow (n := 32) (by omega) (by omega)
  · omega
theorem crcIt_lt (k : Nat) : ∀ {r : Nat}, r < 4294967296 → crcIt k r < 4294967296 := by
  induction k with
  | zero => intro r h; exact h
  | succ k ih => intro r h; exact ih (crcBit_lt h)
/-- One byte more. -/
def crcByte (r : Nat) (b : UInt8) : Nat := crcIt 8 (r ^^^ b.toNat)
theorem crcByte_lt {r : Nat} {b : UInt8} (h : r < 4294967296) : crcByte r b < 4294967296 :=
  crcIt_lt 8 (Nat.xor_lt_two_pow (n := 32) (by omega) (by have := b.toNat_lt; omega))
theorem crcByte_two (r : Nat) (b : UInt8) : crcByte r b = crcIt 4 (crcIt 4 (r ^^^ b.toNat)) := crcIt_add 4 4 _
def crcReg (xs : List UInt8) : Nat := xs.foldl crcByte 4294967295
theorem foldl_lt (xs : List UInt8) : ∀ r, r < 4294967296 → xs.foldl crcByte r < 4294967296 := by
  induction xs with
  | nil => intro r h; exact h
  | cons x xs ih => intro r h; exact ih _ (crcByte_lt h)
theorem crcReg_lt (xs : List UInt8) : crcReg xs < 4294967296 := foldl_lt xs _ (by omega)
theorem crcReg_snoc {xs : List UInt8} {k : Nat} {x : UInt8} (h : xs[k]? = some x) : crcReg (xs.take (k + 1)) = crcByte (crcReg (xs.take k)) x := by
  rw [List.take_add_one, h]; simp [crcReg]
def crc (xs : List UInt8) : Nat := 4294967295 - crcReg xs
theorem xor_mask {r : Nat} (h : r < 4294967296) : r ^^^ 4294967295 = 4294967295 - r := by
  have e : (BitVec.ofNat 32 r ^^^ BitVec.allOnes 32).toNat = r ^^^ 4294967295 := by
    rw [BitVec.toNat_xor, BitVec.toNat_ofNat, BitVec.toNat_allOnes, Nat.mod_eq_of_lt (by omega)]
  rw [BitVec.xor_allOnes, BitVec.toNat_not, BitVec.toNat_ofNat, Nat.mod_eq_of_lt (by omega)] at e
  omega
end Go.Proofs.Ytkhplfgehcljmaa
