/- Words of bytes: the reference's way to make them, and the program's. No program in sight. -/
import Derived.Test.YtpocegdlobnhaaaDP
set_option linter.unusedVariables false
set_option linter.unusedSimpArgs false
set_option maxRecDepth 100000
namespace Go.Proofs.Ytpocegdlobnhaaa.Dig
open Go.RowKit

/-- The schedule while its word k is v, the words ahead are done, and those behind are nought. -/
def wsAt (bl : List UInt8) (k : Nat) (v : Int) : List Int := (List.range 64).map fun j => if j < k then wordAt bl j else if j = k then v else 0
theorem wsAt_length (bl : List UInt8) (k : Nat) (v : Int) : (wsAt bl k v).length = 64 := by simp [wsAt]
theorem wsAt_get {bl : List UInt8} {k : Nat} {v : Int} (hk : k < 64) : (wsAt bl k v)[k]? = some v := by simp [wsAt, hk]
theorem wsAt_done {bl : List UInt8} {k j : Nat} {v : Int} (hj : j < k) (hk : k ≤ 64) : (wsAt bl k v)[j]? = some (wordAt bl j) := by simp [wsAt, hj, show j < 64 by omega]
theorem wsAt_set {bl : List UInt8} {k : Nat} {v v' : Int} (hk : k < 64) : (wsAt bl k v).set k v' = wsAt bl k v' := by
  apply List.ext_getElem?
  intro j
  by_cases h : j = k
  · subst h; rw [List.getElem?_set_self (by rw [wsAt_length]; exact hk), wsAt_get hk]
  · rw [List.getElem?_set_ne (fun e => h e.symm)]
    by_cases hj : j < 64
    · simp [wsAt, hj, h]
    · simp [wsAt, hj]
theorem wsAt_next {bl : List UInt8} {k : Nat} (hk : k < 64) : wsAt bl k (wordAt bl k) = wsAt bl (k + 1) 0 := by
  apply List.ext_getElem?
  intro j
  simp only [wsAt, List.getElem?_map]
  congr 1
  funext i
  by_cases h1 : i < k
  · simp [h1, show i < k + 1 by omega]
  · by_cases h2 : i = k
    · subst h2; simp
    · simp [h1, h2, show ¬ i < k + 1 by omega]
theorem wsAt_none (bl : List UInt8) : wsAt bl 0 0 = List.replicate 64 0 := by
  rw [wsAt, List.eq_replicate_iff]
  refine ⟨by simp, ?_⟩
  intro x hx
  simp only [List.mem_map] at hx
  obtain ⟨j, _, rfl⟩ := hx
  simp

/-- The first i bytes of a word. -/
def accW (bl : List UInt8) (t : Nat) : Nat → Int
  | 0 => 0
  | i + 1 => bits BinOp.or IntKind.u32 (accW bl t i * 256 % 4294967296) (((bl.getD (4 * t + i) 0).toNat : Int) % 4294967296)

theorem bits_or_add {x y k : Nat} (hy : y < 2 ^ k) (hx : x * 2 ^ k + y < 4294967296) : bits BinOp.or IntKind.u32 ((x * 2 ^ k : Nat) : Int) ((y : Nat) : Int) = ((x * 2 ^ k + y : Nat) : Int) := by
  have e : x * 2 ^ k + y = (x * 2 ^ k) ||| y := by
    rw [Nat.mul_comm]; exact Nat.two_pow_add_eq_or_of_lt hy x
  show IntKind.u32.wrap ((BitVec.ofInt 32 ((x * 2 ^ k : Nat) : Int) ||| BitVec.ofInt 32 ((y : Nat) : Int)).toNat) = _
  rw [BitVec.toNat_or, BitVec.ofInt_natCast, BitVec.ofInt_natCast, BitVec.toNat_ofNat, BitVec.toNat_ofNat, Nat.mod_eq_of_lt (by omega), Nat.mod_eq_of_lt (by omega), ← e]
  show ((x * 2 ^ k + y : Nat) : Int) % 4294967296 = _
  omega

theorem or_step {x y : Int} {k X Y : Nat} (hX : x = ((X * 2 ^ k : Nat) : Int)) (hY : y = (Y : Int)) (hy : Y < 2 ^ k) (hx : X * 2 ^ k + Y < 4294967296) : bits BinOp.or IntKind.u32 x y = ((X * 2 ^ k + Y : Nat) : Int) := by
  rw [hX, hY]; exact bits_or_add hy hx
theorem be4_sum (a b c d : UInt8) : be4 a b c d = ((a.toNat * 16777216 + b.toNat * 65536 + c.toNat * 256 + d.toNat : Nat) : Int) := by
  have ha := a.toNat_lt; have hb := b.toNat_lt; have hc := c.toNat_lt; have hd := d.toNat_lt
  unfold be4
  generalize a.toNat = A at *
  generalize b.toNat = B at *
  generalize c.toNat = C at *
  generalize d.toNat = D at *
  have s1 := or_step (x := (A : Int) % 4294967296 * 16777216 % 4294967296) (y := (B : Int) % 4294967296 * 65536 % 4294967296) (k := 24) (X := A) (Y := B * 65536) (by omega) (by omega) (by omega) (by omega)
  rw [s1]
  have s2 := or_step (x := ((A * 2 ^ 24 + B * 65536 : Nat) : Int)) (y := (C : Int) % 4294967296 * 256 % 4294967296) (k := 16) (X := A * 256 + B) (Y := C * 256) (by omega) (by omega) (by omega) (by omega)
  rw [s2]
  have s3 := or_step (x := (((A * 256 + B) * 2 ^ 16 + C * 256 : Nat) : Int)) (y := (D : Int) % 4294967296) (k := 8) (X := A * 65536 + B * 256 + C) (Y := D) (by omega) (by omega) (by omega) (by omega)
  rw [s3]
  omega
theorem acc4 (bl : List UInt8) (t : Nat) : accW bl t 4 = wordAt bl t := by
  rw [wordAt, be4_sum]
  simp only [accW, Nat.add_zero]
  generalize bl.getD (4 * t) 0 = a
  generalize bl.getD (4 * t + 1) 0 = b
  generalize bl.getD (4 * t + 2) 0 = c
  generalize bl.getD (4 * t + 3) 0 = d
  have ha := a.toNat_lt; have hb := b.toNat_lt; have hc := c.toNat_lt; have hd := d.toNat_lt
  generalize a.toNat = A at *
  generalize b.toNat = B at *
  generalize c.toNat = C at *
  generalize d.toNat = D at *
  have s0 := or_step (x := (0 : Int) * 256 % 4294967296) (y := (A : Int) % 4294967296) (k := 8) (X := 0) (Y := A) (by omega) (by omega) (by omega) (by omega)
  rw [s0]
  have s1 := or_step (x := ((0 * 2 ^ 8 + A : Nat) : Int) * 256 % 4294967296) (y := (B : Int) % 4294967296) (k := 8) (X := A) (Y := B) (by omega) (by omega) (by omega) (by omega)
  rw [s1]
  have s2 := or_step (x := ((A * 2 ^ 8 + B : Nat) : Int) * 256 % 4294967296) (y := (C : Int) % 4294967296) (k := 8) (X := A * 256 + B) (Y := C) (by omega) (by omega) (by omega) (by omega)
  rw [s2]
  have s3 := or_step (x := (((A * 256 + B) * 2 ^ 8 + C : Nat) : Int) * 256 % 4294967296) (y := (D : Int) % 4294967296) (k := 8) (X := A * 65536 + B * 256 + C) (Y := D) (by omega) (by omega) (by omega) (by omega)
  rw [s3]
  omega
end Go.Proofs.Ytpocegdlobnhaaa.Dig
