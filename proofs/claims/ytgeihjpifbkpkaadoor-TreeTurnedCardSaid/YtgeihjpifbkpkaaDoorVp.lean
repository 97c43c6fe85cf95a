/- scalar of the law: how many bytes the character at the beginning of a text has. -/
import Derived.Test.YtgeihjpifbkpkaaDoorH
import Derived.Lib.DecodeN
import Derived.Lib.ValidAsc
import Derived.Shelf.Unicode.DecodeSlow
set_option linter.unusedVariables false
set_option linter.unusedSimpArgs false
namespace Go.Proofs.YtgeihjpifbkpkaaDoor
open Go.RowKit Go.Lib

/-- How many bytes the character at the beginning has; 0: there is none. -/
def scN (n b0 b1 b2 b3 : Nat) : Nat := if decodeN n b0 b1 b2 b3 = (65533, 1) then 0 else (decodeN n b0 b1 b2 b3).2
def byteS (s : ByteArray) (i : Nat) : Nat := (s.get! i).toNat
def scS (s : ByteArray) : Nat := scN s.size (byteS s 0) (byteS s 1) (byteS s 2) (byteS s 3)
theorem byteS_lt (s : ByteArray) (i : Nat) : byteS s i < 256 := (s.get! i).toNat_lt
theorem byteS_at {s : ByteArray} {i : Nat} (h : i < s.size) : (s[i]'h).toNat = byteS s i := by
  unfold byteS; rw [Utf8W.get!_of_lt s i h]
/-- The number made of the first bytes. -/
def accS (s : ByteArray) (c0 : Nat) : Nat → Nat
  | 0 => c0
  | j + 1 => if j = 0 then c0 else 64 * accS s c0 j + (byteS s j - 128)
def okS (s : ByteArray) (n : Nat) : Prop := ∀ k, 1 ≤ k → k < n → 128 ≤ byteS s k ∧ byteS s k ≤ 191
theorem sc_low {s : ByteArray} (h : byteS s 0 < 128) : scS s = 1 := by
  unfold scS scN decodeN
  rw [if_pos h]
  exact if_neg (fun e => by have := congrArg Prod.fst e; simp only at this; omega)
theorem sc_none {s : ByteArray} (h : (128 ≤ byteS s 0 ∧ byteS s 0 < 192) ∨ 248 ≤ byteS s 0) : scS s = 0 := by
  have := byteS_lt s 0
  have e : decodeN s.size (byteS s 0) (byteS s 1) (byteS s 2) (byteS s 3) = (65533, 1) := by
    unfold decodeN
    repeat' split
    all_goals first | rfl | (exfalso; omega)
  unfold scS scN; rw [if_pos e]
def leadS (n b0 : Nat) : Prop := (n = 2 ∧ 192 ≤ b0 ∧ b0 < 224) ∨ (n = 3 ∧ 224 ≤ b0 ∧ b0 < 240) ∨ (n = 4 ∧ 240 ≤ b0 ∧ b0 < 248)
theorem sc_short {s : ByteArray} {n : Nat} (h : leadS n (byteS s 0)) (hs : s.size < n) : scS s = 0 := by
  have e : decodeN s.size (byteS s 0) (byteS s 1) (byteS s 2) (byteS s 3) = (65533, 1) := by
    unfold decodeN
    unfold leadS at h
    repeat' split
    all_goals first | rfl | (exfalso; omega)
  unfold scS scN; rw [if_pos e]
theorem sc_bad {s : ByteArray} {n j : Nat} (h : leadS n (byteS s 0)) (h1 : 1 ≤ j) (h2 : j < n) (hb : byteS s j < 128 ∨ 191 < byteS s j) : scS s = 0 := by
  have := byteS_lt s j
  have e : decodeN s.size (byteS s 0) (byteS s 1) (byteS s 2) (byteS s 3) = (65533, 1) := by
    unfold decodeN
    unfold leadS at h
    have hj : j = 1 ∨ j = 2 ∨ j = 3 := by omega
    rcases hj with rfl | rfl | rfl
    all_goals
      repeat' split
      all_goals first | rfl | (exfalso; omega)
  unfold scS scN; rw [if_pos e]
def c0S (n b0 : Nat) : Nat := if n = 2 then b0 - 192 else if n = 3 then b0 - 224 else b0 - 240
def leastS (n : Nat) : Nat := if n = 2 then 128 else if n = 3 then 2048 else 65536
theorem acc1 (s : ByteArray) (c : Nat) : accS s c 1 = c := rfl
theorem acc2 (s : ByteArray) (c : Nat) : accS s c 2 = 64 * c + (byteS s 1 - 128) := rfl
theorem acc3 (s : ByteArray) (c : Nat) : accS s c 3 = 64 * (64 * c + (byteS s 1 - 128)) + (byteS s 2 - 128) := rfl
theorem acc4 (s : ByteArray) (c : Nat) : accS s c 4 = 64 * (64 * (64 * c + (byteS s 1 - 128)) + (byteS s 2 - 128)) + (byteS s 3 - 128) := rfl
theorem c0_lt {n b0 : Nat} (h : leadS n b0) : c0S n b0 < 32 := by
  unfold leadS at h
  rcases h with ⟨rfl, h1, h2⟩ | ⟨rfl, h1, h2⟩ | ⟨rfl, h1, h2⟩
  · show b0 - 192 < 32; omega
  · show b0 - 224 < 32; omega
  · show b0 - 240 < 32; omega
theorem acc_lt {s : ByteArray} {n : Nat} (h : leadS n (byteS s 0)) : ∀ j, okS s j → accS s (c0S n (byteS s 0)) j < 32 * 64 ^ j
  | 0, _ => by have := c0_lt h; show c0S n (byteS s 0) < 32 * 64 ^ 0; omega
  | 1, _ => by have := c0_lt h; rw [acc1]; omega
  | j + 2, ho => by
    have ih := acc_lt h (j + 1) (fun k a b => ho k a (by omega))
    have hb := ho (j + 1) (by omega) (by omega)
    rw [accS, if_neg (by omega), Nat.pow_succ 64 (j + 1)]
    omega
theorem acc_bound {s : ByteArray} {n j : Nat} (h : leadS n (byteS s 0)) (hj : j ≤ 4) (ho : okS s j) : accS s (c0S n (byteS s 0)) j < 536870912 := by
  have h1 := acc_lt h j ho
  have hq : j = 0 ∨ j = 1 ∨ j = 2 ∨ j = 3 ∨ j = 4 := by omega
  rcases hq with rfl | rfl | rfl | rfl | rfl
  · exact Nat.lt_of_lt_of_le h1 (by decide)
  · exact Nat.lt_of_lt_of_le h1 (by decide)
  · exact Nat.lt_of_lt_of_le h1 (by decide)
  · exact Nat.lt_of_lt_of_le h1 (by decide)
  · exact Nat.lt_of_lt_of_le h1 (by decide)
theorem sc_end {s : ByteArray} {n v : Nat} (h : leadS n (byteS s 0)) (hn : n ≤ s.size) (ho : okS s n) (hv : accS s (c0S n (byteS s 0)) n = v) :
    scS s = if v < leastS n ∨ 1114111 < v ∨ (55296 ≤ v ∧ v < 57344) then 0 else n := by
  have l1 := byteS_lt s 1
  have l2 := byteS_lt s 2
  have l3 := byteS_lt s 3
  unfold scS scN
  unfold leadS at h
  rcases h with ⟨rfl, h1, h2⟩ | ⟨rfl, h1, h2⟩ | ⟨rfl, h1, h2⟩
  · have o1 := ho 1 (by omega) (by omega)
    rw [acc2, show c0S 2 (byteS s 0) = byteS s 0 - 192 from rfl] at hv
    rw [show leastS 2 = 128 from rfl]
    have hd : decodeN s.size (byteS s 0) (byteS s 1) (byteS s 2) (byteS s 3) = if byteS s 0 % 32 * 64 + byteS s 1 % 64 ≥ 128 then (byteS s 0 % 32 * 64 + byteS s 1 % 64, 2) else (65533, 1) := by
      unfold decodeN
      rw [if_neg (by omega), if_pos (by omega)]
    rw [hd]
    by_cases q : byteS s 0 % 32 * 64 + byteS s 1 % 64 ≥ 128
    · rw [if_pos q, if_neg (by intro e; have := congrArg Prod.snd e; simp only at this; omega), if_neg (by omega)]
    · rw [if_neg q, if_pos rfl, if_pos (by omega)]
  · have o1 := ho 1 (by omega) (by omega)
    have o2 := ho 2 (by omega) (by omega)
    rw [acc3, show c0S 3 (byteS s 0) = byteS s 0 - 224 from rfl] at hv
    rw [show leastS 3 = 2048 from rfl]
    obtain ⟨r, hr⟩ : ∃ r, byteS s 0 % 16 * 4096 + byteS s 1 % 64 * 64 + byteS s 2 % 64 = r := ⟨_, rfl⟩
    have hd : decodeN s.size (byteS s 0) (byteS s 1) (byteS s 2) (byteS s 3) = if r ≥ 2048 ∧ (r < 55296 ∨ (57344 ≤ r ∧ r ≤ 1114111)) then (r, 3) else (65533, 1) := by
      unfold decodeN
      rw [if_neg (by omega), if_neg (by omega), if_pos (by omega), hr]
    rw [hd]
    by_cases q : r ≥ 2048 ∧ (r < 55296 ∨ (57344 ≤ r ∧ r ≤ 1114111))
    · rw [if_pos q, if_neg (by intro e; have := congrArg Prod.snd e; simp only at this; omega), if_neg (by omega)]
    · rw [if_neg q, if_pos rfl, if_pos (by omega)]
  · have o1 := ho 1 (by omega) (by omega)
    have o2 := ho 2 (by omega) (by omega)
    have o3 := ho 3 (by omega) (by omega)
    rw [acc4, show c0S 4 (byteS s 0) = byteS s 0 - 240 from rfl] at hv
    rw [show leastS 4 = 65536 from rfl]
    obtain ⟨r, hr⟩ : ∃ r, byteS s 0 % 8 * 262144 + byteS s 1 % 64 * 4096 + byteS s 2 % 64 * 64 + byteS s 3 % 64 = r := ⟨_, rfl⟩
    have hd : decodeN s.size (byteS s 0) (byteS s 1) (byteS s 2) (byteS s 3) = if r ≥ 65536 ∧ (r < 55296 ∨ (57344 ≤ r ∧ r ≤ 1114111)) then (r, 4) else (65533, 1) := by
      unfold decodeN
      rw [if_neg (by omega), if_neg (by omega), if_neg (by omega), if_pos (by omega), hr]
    rw [hd]
    by_cases q : r ≥ 65536 ∧ (r < 55296 ∨ (57344 ≤ r ∧ r ≤ 1114111))
    · rw [if_pos q, if_neg (by intro e; have := congrArg Prod.snd e; simp only at this; omega), if_neg (by omega)]
    · rw [if_neg q, if_pos rfl, if_pos (by omega)]

end Go.Proofs.YtgeihjpifbkpkaaDoor
