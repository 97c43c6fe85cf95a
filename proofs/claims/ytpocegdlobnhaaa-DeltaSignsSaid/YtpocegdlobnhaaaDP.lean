/- SHA-256 in plain Lean: the compression as a function of 64 bytes and a state, a Hash's cells as what was taken so far. No program in sight. -/
import Derived.Test.YtpocegdlobnhaaaLib
set_option linter.unusedVariables false
set_option linter.unusedSimpArgs false
set_option maxRecDepth 100000
namespace Go.Proofs.Ytpocegdlobnhaaa.Dig
open Go.RowKit

/-- A word turned by n bits. -/
def rot (x : Int) (n : Nat) : Int := bits BinOp.or IntKind.u32 (x / 2 ^ n) (x * 2 ^ (32 - n) % 4294967296)

/-- A word of the schedule out of four earlier ones. -/
def nxt (x2 x7 x15 x16 : Int) : Int :=
  IntKind.u32.wrap (IntKind.u32.wrap (IntKind.u32.wrap (bits BinOp.xor IntKind.u32 (bits BinOp.xor IntKind.u32 (rot x2 17) (rot x2 19)) (x2 / 1024) + x7) +
    bits BinOp.xor IntKind.u32 (bits BinOp.xor IntKind.u32 (rot x15 7) (rot x15 18)) (x15 / 8)) + x16)

/-- Four bytes as a word, as the program makes it. -/
def be4 (a b c d : UInt8) : Int :=
  bits BinOp.or IntKind.u32 (bits BinOp.or IntKind.u32 (bits BinOp.or IntKind.u32 ((a.toNat : Int) % 4294967296 * 16777216 % 4294967296) ((b.toNat : Int) % 4294967296 * 65536 % 4294967296)) ((c.toNat : Int) % 4294967296 * 256 % 4294967296)) ((d.toNat : Int) % 4294967296)
def wordAt (bl : List UInt8) (j : Nat) : Int := be4 (bl.getD (4 * j) 0) (bl.getD (4 * j + 1) 0) (bl.getD (4 * j + 2) 0) (bl.getD (4 * j + 3) 0)
theorem getD_some {bl : List UInt8} {k : Nat} {x : UInt8} (h : bl[k]? = some x) : bl.getD k 0 = x := by simp [List.getD, h]

/-- The schedule of a block. -/
structure Sched (bl : List UInt8) (S : List Int) : Prop where
  len : S.length = 64
  first : ∀ j, j < 16 → wordAt bl j = S.getD j 0
  next : ∀ t, 16 ≤ t → t < 64 → S.getD t 0 = nxt (S.getD (t - 2) 0) (S.getD (t - 7) 0) (S.getD (t - 15) 0) (S.getD (t - 16) 0)

/-- The schedule, reckoned. -/
def schedUp (bl : List UInt8) : Nat → List Int
  | 0 => (List.range 16).map (wordAt bl)
  | n + 1 => schedUp bl n ++ [nxt ((schedUp bl n).getD (n + 14) 0) ((schedUp bl n).getD (n + 9) 0) ((schedUp bl n).getD (n + 1) 0) ((schedUp bl n).getD n 0)]
theorem schedUp_length (bl : List UInt8) : ∀ n, (schedUp bl n).length = 16 + n
  | 0 => by simp [schedUp]
  | n + 1 => by simp [schedUp, schedUp_length bl n]; omega
theorem schedUp_get (bl : List UInt8) (j : Nat) : ∀ n m, j < 16 + n → (schedUp bl (n + m)).getD j 0 = (schedUp bl n).getD j 0
  | n, 0, _ => rfl
  | n, m + 1, h => by
    rw [← schedUp_get bl j n m h]
    show (schedUp bl (n + m) ++ _).getD j 0 = _
    simp only [List.getD]
    rw [List.getElem?_append_left (by rw [schedUp_length]; omega)]
def sched (bl : List UInt8) : List Int := schedUp bl 48
theorem sched_upTo (bl : List UInt8) (N : Nat) (hN : N = 48) : Sched bl (schedUp bl N) where
  len := by rw [schedUp_length]; omega
  first j hj := by
    have := schedUp_get bl j 0 N (by omega)
    rw [Nat.zero_add] at this
    rw [this]
    simp [schedUp, List.getD, hj]
  next t h1 h2 := by
    obtain ⟨n, rfl⟩ : ∃ n, t = 16 + n := ⟨t - 16, by omega⟩
    have g : ∀ j, j < 16 + n → (schedUp bl N).getD j 0 = (schedUp bl n).getD j 0 := fun j hj => by
      have := schedUp_get bl j n (N - n) hj
      rwa [show n + (N - n) = N by omega] at this
    rw [g (16 + n - 2) (by omega), g (16 + n - 7) (by omega), g (16 + n - 15) (by omega), g (16 + n - 16) (by omega)]
    have := schedUp_get bl (16 + n) (n + 1) (N - (n + 1)) (by omega)
    rw [show n + 1 + (N - (n + 1)) = N by omega] at this
    rw [this]
    have e : schedUp bl (n + 1) = schedUp bl n ++ [nxt ((schedUp bl n).getD (n + 14) 0) ((schedUp bl n).getD (n + 9) 0) ((schedUp bl n).getD (n + 1) 0) ((schedUp bl n).getD n 0)] := rfl
    rw [e, show 16 + n - 2 = n + 14 by omega, show 16 + n - 7 = n + 9 by omega, show 16 + n - 15 = n + 1 by omega, show 16 + n - 16 = n by omega]
    simp only [List.getD]
    rw [List.getElem?_append_right (by rw [schedUp_length]; omega), schedUp_length]
    simp only [Nat.sub_self, List.getElem?_cons_zero, Option.getD_some]
theorem sched_is (bl : List UInt8) : Sched bl (sched bl) := sched_upTo bl 48 rfl

/-- The constants of the rounds. -/
def ktab : List Int := [
0x428a2f98, 0x71374491, 0xb5c0fbcf, 0xe9b5dba5, 0x3956c25b, 0x59f111f1, 0x923f82a4, 0xab1c5ed5,
0xd807aa98, 0x12835b01, 0x243185be, 0x550c7dc3, 0x72be5d74, 0x80deb1fe, 0x9bdc06a7, 0xc19bf174,
0xe49b69c1, 0xefbe4786, 0x0fc19dc6, 0x240ca1cc, 0x2de92c6f, 0x4a7484aa, 0x5cb0a9dc, 0x76f988da,
0x983e5152, 0xa831c66d, 0xb00327c8, 0xbf597fc7, 0xc6e00bf3, 0xd5a79147, 0x06ca6351, 0x14292967,
0x27b70a85, 0x2e1b2138, 0x4d2c6dfc, 0x53380d13, 0x650a7354, 0x766a0abb, 0x81c2c92e, 0x92722c85,
0xa2bfe8a1, 0xa81a664b, 0xc24b8b70, 0xc76c51a3, 0xd192e819, 0xd6990624, 0xf40e3585, 0x106aa070,
0x19a4c116, 0x1e376c08, 0x2748774c, 0x34b0bcb5, 0x391c0cb3, 0x4ed8aa4a, 0x5b9cca4f, 0x682e6ff3,
0x748f82ee, 0x78a5636f, 0x84c87814, 0x8cc70208, 0x90befffa, 0xa4506ceb, 0xbef9a3f7, 0xc67178f2]

/-- The two sums that a round adds. -/
def rndX (k w e f g h : Int) : Int :=
  h + bits BinOp.xor IntKind.u32 (bits BinOp.xor IntKind.u32 (rot e 6) (rot e 11)) (rot e 25) +
    bits BinOp.xor IntKind.u32 (bits BinOp.and IntKind.u32 e f) (bits BinOp.and IntKind.u32 (bits BinOp.xor IntKind.u32 IntKind.u32.max e) g) + k + w
def rndY (a b c : Int) : Int :=
  bits BinOp.xor IntKind.u32 (bits BinOp.xor IntKind.u32 (rot a 2) (rot a 13)) (rot a 22) +
    bits BinOp.xor IntKind.u32 (bits BinOp.xor IntKind.u32 (bits BinOp.and IntKind.u32 a b) (bits BinOp.and IntKind.u32 a c)) (bits BinOp.and IntKind.u32 b c)
/-- One round. -/
def rndL (k w : Int) : List Int → List Int
  | [a, b, c, d, e, f, g, h] => [(rndX k w e f g h + rndY a b c) % 4294967296, a, b, c, (d + rndX k w e f g h) % 4294967296, e, f, g]
  | s => s
def rounds (S st : List Int) : Nat → List Int
  | 0 => st
  | n + 1 => rndL (ktab.getD n 0) (S.getD n 0) (rounds S st n)
theorem rndL_length {k w : Int} {s : List Int} (h : s.length = 8) : (rndL k w s).length = 8 := by
  match s, h with
  | [a, b, c, d, e, f, g, h], _ => rfl
theorem rounds_length {S st : List Int} (h : st.length = 8) : ∀ n, (rounds S st n).length = 8
  | 0 => h
  | n + 1 => rndL_length (rounds_length h n)
/-- The first n words with those of R added. -/
def mix (st R : List Int) : Nat → List Int
  | 0 => st
  | n + 1 => (mix st R n).set n (IntKind.u32.wrap (st.getD n 0 + R.getD n 0))
theorem mix_length (st R : List Int) : ∀ n, (mix st R n).length = st.length
  | 0 => rfl
  | n + 1 => by rw [mix, List.length_set, mix_length st R n]
theorem mix_get (st R : List Int) {k : Nat} : ∀ n, n ≤ k → (mix st R n)[k]? = st[k]?
  | 0, _ => rfl
  | n + 1, h => by rw [mix, List.getElem?_set_ne (by omega), mix_get st R n (by omega)]
/-- The state behind a block whose schedule is S. -/
def compS (S st : List Int) : List Int := mix st (rounds S st 64) 8
def comp (bl : List UInt8) (st : List Int) : List Int := compS (sched bl) st
theorem comp_length {bl : List UInt8} {st : List Int} (h : st.length = 8) : (comp bl st).length = 8 := by
  rw [comp, compS, mix_length, h]

/-- Words as values. -/
def u32s (l : List Int) : List Value := l.map (.int .u32)

/-- The words of the state at first. -/
def first : List Int := [0x6a09e667, 0xbb67ae85, 0x3c6ef372, 0xa54ff53a, 0x510e527f, 0x9b05688c, 0x1f83d9ab, 0x5be0cd19]

section
variable (comp : List UInt8 → List Int → List Int)
/-- The state behind the first n whole blocks. -/
def absorbF (d : List UInt8) : Nat → List Int
  | 0 => first
  | n + 1 => comp ((d.drop (64 * n)).take 64) (absorbF d n)
theorem absorbF_congr {d e : List UInt8} : ∀ {n : Nat}, d.take (64 * n) = e.take (64 * n) → absorbF comp d n = absorbF comp e n
  | 0, _ => rfl
  | n + 1, h => by
    have h1 : d.take (64 * n) = e.take (64 * n) := by
      have := congrArg (List.take (64 * n)) h
      rwa [List.take_take, List.take_take, Nat.min_eq_left (by omega)] at this
    have h2 : (d.drop (64 * n)).take 64 = (e.drop (64 * n)).take 64 := by
      have := congrArg (List.drop (64 * n)) h
      rw [List.drop_take, List.drop_take] at this
      rwa [show 64 * (n + 1) - 64 * n = 64 by omega] at this
    rw [absorbF, absorbF, h2, absorbF_congr h1]
theorem absorbF_append {d e : List UInt8} {n : Nat} (h : 64 * n ≤ d.length) : absorbF comp (d ++ e) n = absorbF comp d n :=
  absorbF_congr comp (by rw [List.take_append_of_le_length h])

/-- A begun Hash with this state, block and count has taken d. -/
structure TookF (d : List UInt8) (st : List Int) (bl : List UInt8) (hv : Nat) : Prop where
  stE : st = absorbF comp d (d.length / 64)
  bl64 : bl.length = 64
  hvE : hv = d.length % 64
  rest : bl.take hv = d.drop (64 * (d.length / 64))

/-- The block with c laid in from hv on. -/
def laid (bl : List UInt8) (hv : Nat) (c : List UInt8) : List UInt8 := bl.take hv ++ (c ++ bl.drop (hv + c.length))
theorem laid_length {bl c : List UInt8} {hv : Nat} (hb : bl.length = 64) (h : hv + c.length ≤ 64) : (laid bl hv c).length = 64 := by
  simp [laid]; omega

variable {comp}
theorem TookF.more {d c : List UInt8} {st : List Int} {bl : List UInt8} {hv : Nat} (h : TookF comp d st bl hv) (hc : hv + c.length < 64) : TookF comp (d ++ c) st (laid bl hv c) (hv + c.length) := by
  have e1 := h.hvE
  have q : (d.length + c.length) / 64 = d.length / 64 := by omega
  have r : (d.length + c.length) % 64 = d.length % 64 + c.length := by omega
  refine ⟨?_, laid_length h.bl64 (by omega), ?_, ?_⟩
  · rw [List.length_append, q, absorbF_append comp (by omega)]; exact h.stE
  · rw [List.length_append, r, e1]
  · rw [List.length_append, q, List.drop_append_of_le_length (by omega), ← h.rest, laid, ← List.append_assoc, List.take_append_of_le_length (by simp [h.bl64]; omega), List.take_of_length_le (by simp [h.bl64]; exact Nat.min_le_left _ _)]
theorem TookF.full {d c : List UInt8} {st : List Int} {bl : List UInt8} {hv : Nat} (h : TookF comp d st bl hv) (hc : hv + c.length = 64) : TookF comp (d ++ c) (comp (laid bl hv c) st) (laid bl hv c) 0 := by
  have e1 := h.hvE
  have q : (d.length + c.length) / 64 = d.length / 64 + 1 := by omega
  have r : (d.length + c.length) % 64 = 0 := by omega
  refine ⟨?_, laid_length h.bl64 (by omega), ?_, ?_⟩
  · have hd : 64 * (d.length / 64) ≤ d.length := by omega
    have e2 : laid bl hv c = bl.take hv ++ c := by
      rw [laid, List.drop_eq_nil_of_le (by rw [h.bl64]; omega), List.append_nil]
    have e3 : absorbF comp (d ++ c) (d.length / 64 + 1) = comp (((d ++ c).drop (64 * (d.length / 64))).take 64) (absorbF comp (d ++ c) (d.length / 64)) := rfl
    rw [List.length_append, q, e3, absorbF_append comp hd, ← h.stE, List.drop_append_of_le_length hd, ← h.rest, e2, List.take_of_length_le (l := bl.take hv ++ c) (by simp [h.bl64]; omega)]
  · rw [List.length_append, r]
  · rw [List.length_append, q, List.take_zero, List.drop_eq_nil_of_le (by rw [List.length_append]; omega)]
theorem TookF.none (bl : List UInt8) (hb : bl.length = 64) : TookF comp [] first bl 0 := ⟨rfl, hb, rfl, rfl⟩
end

/-- How many noughts a message of n bytes is filled up with. -/
def padz (n : Nat) : Nat := (119 - n % 64) % 64
theorem padz_at (n : Nat) : (n + 1 + padz n) % 64 = 56 := by unfold padz; omega
theorem padz_lt (n : Nat) : padz n < 64 := by unfold padz; omega
theorem padz_only {n z : Nat} (hz : z ≤ padz n) (h : (n + 1 + z) % 64 = 56) : z = padz n := by unfold padz at *; omega
/-- The number of bits as eight bytes. -/
def be8 (n : Nat) : List UInt8 := (List.range 8).map fun i => UInt8.ofNat (8 * n / 2 ^ (56 - 8 * i))
/-- A message with what is put behind it. -/
def pad (d : List UInt8) : List UInt8 := d ++ 128 :: List.replicate (padz d.length) 0 ++ be8 d.length
theorem be8_length (n : Nat) : (be8 n).length = 8 := by simp [be8]
theorem pad_length (d : List UInt8) : (pad d).length = 64 * ((d.length + padz d.length + 9) / 64) := by
  have := padz_at d.length
  simp [pad, be8_length]; omega
/-- A state's words as bytes. -/
def outOf (st : List Int) : List UInt8 := st.flatMap fun x => [UInt8.ofNat (x / 2 ^ 24).toNat, UInt8.ofNat (x / 2 ^ 16).toNat, UInt8.ofNat (x / 2 ^ 8).toNat, UInt8.ofNat x.toNat]
end Go.Proofs.Ytpocegdlobnhaaa.Dig
