/- CV CW -/
import Derived.Test.YtpocegdlobnhaaaIb
import Derived.Test.YtpocegdlobnhaaaCL
import Derived.Deep.WholeRow
section
/- A check sum of 32 bits, plain: bit by bit, and four bits at once. No program in sight. -/
set_option linter.unusedVariables false
set_option maxRecDepth 100000
namespace Go.Proofs.Ytpocegdlobnhaaa.Cod

/-- One bit goes out. -/
def crcBit (r : Nat) : Nat := if r % 2 = 1 then r / 2 ^^^ 3988292384 else r / 2
def crcIt : Nat → Nat → Nat
  | 0, r => r
  | k + 1, r => crcIt k (crcBit r)
theorem crcIt_succ (k r : Nat) : crcIt (k + 1) r = crcBit (crcIt k r) := by
  induction k generalizing r with
  | zero => rfl
  | succ k ih => rw [crcIt, ih]; rfl
theorem crcIt_add (j k r : Nat) : crcIt (j + k) r = crcIt k (crcIt j r) := by
  induction j generalizing r with
  | zero => simp [crcIt]
  | succ j ih => rw [show j + 1 + k = (j + k) + 1 by omega, crcIt, crcIt, ih]
theorem crcBit_xor (a b : Nat) : crcBit (a ^^^ b) = crcBit a ^^^ crcBit b := by
  have h := Nat.xor_mod_two_eq_one (a := a) (b := b)
  have hd : (a ^^^ b) / 2 = a / 2 ^^^ b / 2 := Nat.xor_div_two
  unfold crcBit
  by_cases ha : a % 2 = 1
  · by_cases hb : b % 2 = 1
    · rw [if_neg (by rw [h]; simp [ha, hb]), if_pos ha, if_pos hb, hd]
      rw [Nat.xor_assoc, Nat.xor_comm 3988292384, Nat.xor_assoc, Nat.xor_self, Nat.xor_zero]
    · rw [if_pos (by rw [h]; simp [ha, hb]), if_pos ha, if_neg hb, hd]
      rw [Nat.xor_assoc, Nat.xor_assoc, Nat.xor_comm 3988292384]
  · by_cases hb : b % 2 = 1
    · rw [if_pos (by rw [h]; simp [ha, hb]), if_neg ha, if_pos hb, hd, Nat.xor_assoc]
    · rw [if_neg (by rw [h]; simp [ha, hb]), if_neg ha, if_neg hb, hd]
theorem crcIt_xor (k a b : Nat) : crcIt k (a ^^^ b) = crcIt k a ^^^ crcIt k b := by
  induction k generalizing a b with
  | zero => rfl
  | succ k ih => rw [crcIt, crcBit_xor, ih]; rfl
theorem crcBit_even (q : Nat) : crcBit (2 * q) = q := by
  unfold crcBit
  rw [if_neg (by omega)]; omega
theorem crcIt_zeros (k q : Nat) : crcIt k (2 ^ k * q) = q := by
  induction k generalizing q with
  | zero => simp [crcIt]
  | succ k ih => rw [crcIt, Nat.pow_succ, Nat.mul_comm (2 ^ k) 2, Nat.mul_assoc, crcBit_even, ih]
theorem split16 (r : Nat) : r = 16 * (r / 16) ^^^ r % 16 := by
  have h : r % 16 < 2 ^ 4 := Nat.mod_lt _ (by omega)
  have h1 := Nat.two_pow_add_eq_or_of_lt h (r / 16)
  have h2 : 2 ^ 4 * (r / 16) ||| r % 16 = 2 ^ 4 * (r / 16) ^^^ r % 16 := by
    apply Nat.eq_of_testBit_eq
    intro i
    rw [Nat.testBit_or, Nat.testBit_xor]
    by_cases hi : i < 4
    · have : (2 ^ 4 * (r / 16)).testBit i = false := by
        rw [Nat.testBit_two_pow_mul]; simp; omega
      rw [this]; simp
    · have : (r % 16).testBit i = false := Nat.testBit_lt_two_pow (Nat.lt_of_lt_of_le h (Nat.pow_le_pow_right (by omega) (by omega)))
      rw [this]; simp
  have h3 : 16 * (r / 16) + r % 16 = r := Nat.div_add_mod r 16
  rw [show (2 : Nat) ^ 4 = 16 from rfl] at h1 h2
  omega
theorem crc_four (r : Nat) : crcIt 4 r = r / 16 ^^^ crcIt 4 (r % 16) := by
  have h := crcIt_zeros 4 (r / 16)
  have e : crcIt 4 r = crcIt 4 (16 * (r / 16) ^^^ r % 16) := by rw [← split16]
  rw [e, crcIt_xor]
  congr 1
theorem crcBit_lt {r : Nat} (h : r < 4294967296) : crcBit r < 4294967296 := by
  unfold crcBit
  split
  · exact Nat.xor_lt_two_pow (n := 32) (by omega) (by omega)
  · omega
theorem crcIt_lt (k : Nat) : ∀ {r : Nat}, r < 4294967296 → crcIt k r < 4294967296 := by
  induction k with
  | zero => intro r h; exact h
  | succ k ih => intro r h; exact ih (crcBit_lt h)
/-- One byte more. -/
def crcByte (r : Nat) (b : UInt8) : Nat := crcIt 8 (r ^^^ b.toNat)
theorem crcByte_two (r : Nat) (b : UInt8) : crcByte r b = crcIt 4 (crcIt 4 (r ^^^ b.toNat)) := crcIt_add 4 4 _
def crcReg (xs : List UInt8) : Nat := xs.foldl crcByte 4294967295
theorem crcReg_snoc {xs : List UInt8} {k : Nat} {x : UInt8} (h : xs[k]? = some x) : crcReg (xs.take (k + 1)) = crcByte (crcReg (xs.take k)) x := by
  rw [List.take_add_one, h]; simp [crcReg]
def crc (xs : List UInt8) : Nat := 4294967295 - crcReg xs
theorem xor_mask {r : Nat} (h : r < 4294967296) : r ^^^ 4294967295 = 4294967295 - r := by
  have e : (BitVec.ofNat 32 r ^^^ BitVec.allOnes 32).toNat = r ^^^ 4294967295 := by
    rw [BitVec.toNat_xor, BitVec.toNat_ofNat, BitVec.toNat_allOnes, Nat.mod_eq_of_lt (by omega)]
  rw [BitVec.xor_allOnes, BitVec.toNat_not, BitVec.toNat_ofNat, Nat.mod_eq_of_lt (by omega)] at e
  omega
end Go.Proofs.Ytpocegdlobnhaaa.Cod
end
section
/- The check sum, walked: the program's by a table, the document's bit by bit. -/
set_option linter.unusedVariables false
set_option linter.unusedSimpArgs false
set_option maxRecDepth 100000
namespace Go.Proofs.Ytpocegdlobnhaaa.Cod
open Go.RowKit

def u32n (l : List Nat) : List Value := l.map fun (n : Nat) => Value.int .u32 n
def tabL (k : Nat) : List Nat := (List.range k).map (crcIt 4) ++ List.replicate (16 - k) 0
theorem tabL_len {k : Nat} (h : k ≤ 16) : (tabL k).length = 16 := by simp [tabL]; omega
theorem tabL_set {k : Nat} (h : k < 16) : (tabL k).set k (crcIt 4 k) = tabL (k + 1) := by
  obtain ⟨m, hm⟩ : ∃ m, 16 - k = m + 1 := ⟨15 - k, by omega⟩
  rw [tabL, tabL, hm, show 16 - (k + 1) = m by omega, List.range_succ, List.map_append, List.set_append_right _ _ (by simp)]
  simp [List.replicate_succ]
theorem u32n_set (l : List Nat) (k n : Nat) : (u32n (l.set k n)).toArray = (u32n l).toArray.setIfInBounds k (.int .u32 n) := by
  apply Array.ext'; simp [u32n, List.map_set]
theorem zero81 : ∀ w, (zeroValue 178).run Try.prog w = .ok (.agg (u32n (tabL 0)).toArray) w :=
  (zero_of_info (n := 16) (by kernel_rfl)).1
theorem u32_xor (a b : Nat) (ha : a < 4294967296) (hb : b < 4294967296) : bits .xor .u32 (a : Int) (b : Int) = ((a ^^^ b : Nat) : Int) := u32_xor_nat a b ha hb
theorem u32_and15 (a : Nat) (ha : a < 4294967296) : bits .and .u32 (a : Int) 15 = ((a % 16 : Nat) : Int) := by
  have := u32_and_nat a 15 ha (by omega)
  rw [show (15 : Nat) = 2 ^ 4 - 1 from rfl, Nat.and_two_pow_sub_one_eq_mod] at this
  exact this
theorem u32_and1 (a : Nat) (ha : a < 4294967296) : bits .and .u32 (a : Int) 1 = ((a % 2 : Nat) : Int) := by
  have := u32_and_nat a 1 ha (by omega)
  rw [show (1 : Nat) = 2 ^ 1 - 1 from rfl, Nat.and_two_pow_sub_one_eq_mod] at this
  exact this

set_option maxHeartbeats 4000000 in
set_option maxRecDepth 100000 in
theorem sum_any (a : Option Addr) (n c : Nat) (xs : List UInt8) (w : World) (hl : xs.length = n) (hn : n ≤ 140737488355328) (hrd : Rd w a (bs xs)) :
    Calls Try.prog 101 #[.slice a n c] w fun e w' => e = .returned (.int .i64 (crc xs)) ∧ Keep [] w w' := by
  have HL := Lib.hid hl
  have hz := zero81
  obtain ⟨Z, hZ⟩ : ∃ Z, (u32n (tabL 0)).toArray = Z := ⟨_, rfl⟩
  rw [hZ] at hz
  obtain ⟨T, hT⟩ : ∃ T, w.heap.size = T := ⟨_, rfl⟩
  obtain ⟨w0, hw0⟩ : ∃ w0, w.alloc (.cells Z 178) = w0 := ⟨_, rfl⟩
  have hB0 : Blk w0 T (u32n (tabL 0)).toArray 178 := by rw [← hw0, hZ, ← hT]; exact Blk.new w Z 178
  have k0 : Keep [] w w0 := by rw [← hw0]; exact (Keep.refl _ _).alloc _
  have hTw : w.heap.size ≤ T := by omega
  clear hl hZ
  go_enter Try.func101, Try.ntmps101
  go_upto_region 3 with fail
  clear hz hT hw0
  go_loopw [10] (fun v10 wr => ∃ i, i ≤ 16 ∧ v10 = .int .i64 (i : Nat) ∧ Blk wr T (u32n (tabL i)).toArray 178 ∧ Keep [] w wr) (fun v10 _ => 16 - (intOf v10).toNat)
  case atStart => exact ⟨0, by omega, rfl, hB0, k0⟩
  case round =>
    clear hB0 k0
    obtain ⟨i, hi, rfl, hB, hk⟩ := hrel
    by_cases hlt : i < 16
    · go_wp2_with fail
      go_loopw [5, 6, 15] (fun v5 v6 v15 wx => ∃ j q : Nat, j ≤ 4 ∧ v15 = .int .i64 j ∧ v5 = .int .u32 q ∧ q < 4294967296 ∧ Hid (crcIt j i = q) ∧ wx = wr) (fun _ _ v15 _ => 4 - (intOf v15).toNat)
      case atStart => exact ⟨0, i, by omega, rfl, rfl, by omega, Lib.hid rfl, rfl⟩
      case round =>
        obtain ⟨j, q, hj, rfl, rfl, hq, HQ, rfl⟩ := hrel
        by_cases hj4 : j < 4
        · have ha := u32_and1 q hq
          have HN := Lib.hid (show crcIt (j + 1) i = crcBit q by rw [crcIt_succ, HQ.out])
          by_cases hodd : q % 2 = 1
          · have hx := u32_xor (q / 2) 3988292384 (by omega) (by omega)
            have hx' : bits .xor .u32 ((q : Int) / 2) 3988292384 = ((q / 2 ^^^ 3988292384 : Nat) : Int) := by rw [← hx]; rfl
            obtain ⟨z, hz⟩ : ∃ z, q / 2 ^^^ 3988292384 = z := ⟨_, rfl⟩
            have hz32 : z < 4294967296 := by rw [← hz]; exact Nat.xor_lt_two_pow (n := 32) (by omega) (by omega)
            rw [hz] at hx'
            have HZ := Lib.hid hz
            have h1 : ((q : Int) % 2) = 1 := by omega
            rw [show ((q % 2 : Nat) : Int) = 1 by omega] at ha
            clear hz hx
            go_wp2_with fail
            refine ⟨⟨j + 1, z, by omega, by go_num, rfl, hz32, Lib.hid ?_, trivial⟩, by simp [intOf]; omega⟩
            rw [HN.out, crcBit, if_pos hodd, HZ.out]
          · have h1 : ((q : Int) % 2) = 0 := by omega
            rw [show ((q % 2 : Nat) : Int) = 0 by omega] at ha
            go_wp2_with fail
            refine ⟨⟨j + 1, q / 2, by omega, by go_num, by congr 1, by omega, Lib.hid ?_, trivial⟩, by simp [intOf]; omega⟩
            rw [HN.out, crcBit, if_neg hodd]
        · obtain rfl : j = 4 := by omega
          obtain ⟨z0, hz0⟩ : ∃ z, (tabL i)[i]? = some z := ⟨_, List.getElem?_eq_getElem (by rw [tabL_len (by omega)]; exact hlt)⟩
          have c0 : wr.cell? ⟨T, i, none⟩ = some (.int .u32 z0) := hB.cell (by simp [u32n, hz0])
          have f0 := hB.free (i := i)
          clear hz0
          go_wp2_with fail
          refine ⟨⟨i + 1, by omega, by go_num, ?_, hk.set (Or.inr hTw) _⟩, by simp [intOf]; omega⟩
          have := hB.set i (.int .u32 (q : Nat))
          rw [← u32n_set, ← HQ.out, tabL_set hlt] at this
          rw [← HQ.out]; exact this
    · obtain rfl : i = 16 := by omega
      have hrd2 := hrd.keep hk (by simp)
      go_wp2_with fail
      go_loopw [7, 32] (fun v7 v32 wx => ∃ k r : Nat, k ≤ n ∧ v32 = .int .i64 k ∧ v7 = .int .u32 r ∧ r < 4294967296 ∧ Hid (crcReg (xs.take k) = r) ∧ wx = wr) (fun _ v32 _ => n - (intOf v32).toNat)
      case atStart => exact ⟨0, 4294967295, by omega, rfl, rfl, by omega, Lib.hid rfl, rfl⟩
      case round =>
        obtain ⟨k, r, hkn, rfl, rfl, hr, HR, rfl⟩ := hrel
        by_cases hlt2 : k < n
        · obtain ⟨b, off, rfl, hcell⟩ := hrd2.byte (k := k) (by have := HL.out; omega)
          obtain ⟨x, hx⟩ : ∃ x, xs[k]? = some x := ⟨_, List.getElem?_eq_getElem (by have := HL.out; omega)⟩
          have e1 : xs[k]'(by have := HL.out; omega) = x := by
            rw [List.getElem?_eq_getElem (by have := HL.out; omega)] at hx; exact Option.some.inj hx
          rw [e1] at hcell
          have HN := Lib.hid (show crcReg (xs.take (k + 1)) = crcIt 4 (crcIt 4 (r ^^^ x.toNat)) by rw [crcReg_snoc hx, HR.out, crcByte_two])
          have hx8 : x.toNat < 256 := x.toNat_lt
          have s1 := u32_xor r x.toNat hr (by omega)
          obtain ⟨q1, hq1⟩ : ∃ q, r ^^^ x.toNat = q := ⟨_, rfl⟩
          have b1 : q1 < 4294967296 := by rw [← hq1]; exact Nat.xor_lt_two_pow (n := 32) (by omega) (by omega)
          rw [hq1] at s1
          have s2 := u32_and15 q1 b1
          obtain ⟨t1, ht1⟩ : ∃ t, q1 % 16 = t := ⟨_, rfl⟩
          have b2 : t1 < 16 := by omega
          rw [ht1] at s2
          have c1 : wr.cell? ⟨T, t1, none⟩ = some (.int .u32 (crcIt 4 t1 : Nat)) := hB.cell (by
            simp only [u32n, List.getElem?_toArray, List.getElem?_map]
            rw [tabL, List.getElem?_append_left (by simp; exact b2)]
            simp [b2])
          have b3 : crcIt 4 t1 < 4294967296 := crcIt_lt 4 (by omega)
          obtain ⟨y1, hy1⟩ : ∃ y, crcIt 4 t1 = y := ⟨_, rfl⟩
          rw [hy1] at c1 b3
          have s3 := u32_xor (q1 / 16) y1 (by omega) b3
          obtain ⟨q2, hq2⟩ : ∃ q, q1 / 16 ^^^ y1 = q := ⟨_, rfl⟩
          have b4 : q2 < 4294967296 := by rw [← hq2]; exact Nat.xor_lt_two_pow (n := 32) (by omega) (by omega)
          rw [hq2] at s3
          have s4 := u32_and15 q2 b4
          obtain ⟨t2, ht2⟩ : ∃ t, q2 % 16 = t := ⟨_, rfl⟩
          have b5 : t2 < 16 := by omega
          rw [ht2] at s4
          have c2 : wr.cell? ⟨T, t2, none⟩ = some (.int .u32 (crcIt 4 t2 : Nat)) := hB.cell (by
            simp only [u32n, List.getElem?_toArray, List.getElem?_map]
            rw [tabL, List.getElem?_append_left (by simp; exact b5)]
            simp [b5])
          have b6 : crcIt 4 t2 < 4294967296 := crcIt_lt 4 (by omega)
          obtain ⟨y2, hy2⟩ : ∃ y, crcIt 4 t2 = y := ⟨_, rfl⟩
          rw [hy2] at c2 b6
          have s5 := u32_xor (q2 / 16) y2 (by omega) b6
          obtain ⟨q3, hq3⟩ : ∃ q, q2 / 16 ^^^ y2 = q := ⟨_, rfl⟩
          have b7 : q3 < 4294967296 := by rw [← hq3]; exact Nat.xor_lt_two_pow (n := 32) (by omega) (by omega)
          rw [hq3] at s5
          push_cast at s3 s5
          have HF := Lib.hid (show crcIt 4 (crcIt 4 (r ^^^ x.toNat)) = q3 by
            rw [hq1, crc_four q1, ht1, hy1, hq2, crc_four q2, ht2, hy2, hq3])
          have i1 : (k : Int) < n := by omega
          have i2 : (t1 : Int) < 16 := by omega
          have i3 : (t2 : Int) < 16 := by omega
          clear hx e1 hq1 ht1 hy1 hq2 ht2 hy2 hq3 hlt2
          go_wp2_with fail
          refine ⟨⟨k + 1, q3, by omega, by go_num, rfl, b7, Lib.hid (HN.out.trans HF.out), trivial⟩, by simp [intOf]; omega⟩
        · obtain rfl : k = n := by omega
          have s1 := u32_xor r 4294967295 hr (by omega)
          rw [xor_mask hr] at s1
          obtain ⟨z, hz⟩ : ∃ z, 4294967295 - r = z := ⟨_, rfl⟩
          rw [hz] at s1
          have b1 : z < 4294967296 := by omega
          have HZ := Lib.hid hz
          have s1' : bits .xor .u32 (r : Int) 4294967295 = z := s1
          clear hz s1
          go_wp2_with fail
          go_returns
          have e : crc xs = z := by
            have := HR.out
            rw [List.take_of_length_le (by rw [HL.out]; exact Nat.le_refl _)] at this
            rw [crc, this, HZ.out]
          rw [e]
          exact ⟨rfl, hk⟩

set_option maxHeartbeats 4000000 in
set_option maxRecDepth 100000 in
theorem refSum_any (a : Option Addr) (n c : Nat) (xs : List UInt8) (w : World) (hl : xs.length = n) (hn : n ≤ 140737488355328) (hrd : Rd w a (bs xs)) :
    Calls Try.prog 95 #[.slice a n c] w fun e w' => e = .returned (.int .i64 (crc xs)) ∧ w' = w := by
  have HL := Lib.hid hl
  clear hl
  go_enter Try.func95, Try.ntmps95
  go_wp2_with fail
  go_loop [3, 4] (fun v3 v4 => ∃ k r : Nat, k ≤ n ∧ v4 = .int .i64 k ∧ v3 = .int .i64 r ∧ r < 4294967296 ∧ Hid (crcReg (xs.take k) = r)) (fun _ v4 => n - (intOf v4).toNat)
  case atStart => exact ⟨0, 4294967295, by omega, rfl, rfl, by omega, Lib.hid rfl⟩
  case round =>
    obtain ⟨k, r, hkn, rfl, rfl, hr, HR⟩ := hrel
    by_cases hlt2 : k < n
    · obtain ⟨b, off, rfl, hcell⟩ := hrd.byte (k := k) (by have := HL.out; omega)
      obtain ⟨x, hx⟩ : ∃ x, xs[k]? = some x := ⟨_, List.getElem?_eq_getElem (by have := HL.out; omega)⟩
      have e1 : xs[k]'(by have := HL.out; omega) = x := by
        rw [List.getElem?_eq_getElem (by have := HL.out; omega)] at hx; exact Option.some.inj hx
      rw [e1] at hcell
      have hx8 : x.toNat < 256 := x.toNat_lt
      have s1 := i64_xor_nat r x.toNat (by omega) (by omega)
      obtain ⟨q1, hq1⟩ : ∃ q, r ^^^ x.toNat = q := ⟨_, rfl⟩
      have b1 : q1 < 4294967296 := by rw [← hq1]; exact Nat.xor_lt_two_pow (n := 32) (by omega) (by omega)
      rw [hq1] at s1
      have HN := Lib.hid (show crcReg (xs.take (k + 1)) = crcIt 8 q1 by rw [crcReg_snoc hx, HR.out, crcByte, hq1])
      have i1 : (k : Int) < n := by omega
      clear hx e1 hq1 hlt2
      go_wp2_with fail
      go_loop [3, 5] (fun v3 v5 => ∃ j q : Nat, j ≤ 8 ∧ v5 = .int .i64 j ∧ v3 = .int .i64 q ∧ q < 4294967296 ∧ Hid (crcIt j q1 = q)) (fun _ v5 => 8 - (intOf v5).toNat)
      case atStart => exact ⟨0, q1, by omega, rfl, rfl, b1, Lib.hid rfl⟩
      case round =>
        clear s1
        obtain ⟨j, q, hj, rfl, rfl, hq, HQ⟩ := hrel
        by_cases hj8 : j < 8
        · have HM := Lib.hid (show crcIt (j + 1) q1 = crcBit q by rw [crcIt_succ, HQ.out])
          by_cases hodd : q % 2 = 1
          · have hx := i64_xor_nat (q / 2) 3988292384 (by omega) (by omega)
            have hx' : bits .xor .i64 ((q : Int) / 2) 3988292384 = ((q / 2 ^^^ 3988292384 : Nat) : Int) := by rw [← hx]; rfl
            obtain ⟨z, hz⟩ : ∃ z, q / 2 ^^^ 3988292384 = z := ⟨_, rfl⟩
            have hz32 : z < 4294967296 := by rw [← hz]; exact Nat.xor_lt_two_pow (n := 32) (by omega) (by omega)
            rw [hz] at hx'
            have HZ := Lib.hid hz
            have h1 : ((q : Int) % 2) = 1 := by omega
            clear hz hx
            go_wp2_with fail
            refine ⟨⟨j + 1, z, by omega, by go_num, rfl, hz32, Lib.hid ?_⟩, by simp [intOf]; omega⟩
            rw [HM.out, crcBit, if_pos hodd, HZ.out]
          · have h1 : ((q : Int) % 2) = 0 := by omega
            go_wp2_with fail
            refine ⟨⟨j + 1, q / 2, by omega, by go_num, by congr 1, by omega, Lib.hid ?_⟩, by simp [intOf]; omega⟩
            rw [HM.out, crcBit, if_neg hodd]
        · obtain rfl : j = 8 := by omega
          go_wp2_with fail
          refine ⟨⟨k + 1, q, by omega, by go_num, rfl, hq, Lib.hid (HN.out.trans HQ.out)⟩, by simp [intOf]; omega⟩
    · obtain rfl : k = n := by omega
      go_wp2_with fail
      go_returns
      have e : crc xs = 4294967295 - r := by
        have := HR.out
        rw [List.take_of_length_le (by rw [HL.out]; exact Nat.le_refl _)] at this
        rw [crc, this]
      rw [e]
      refine ⟨?_, rfl⟩
      have : ((4294967295 - r : Nat) : Int) = 4294967295 - (r : Int) := by omega
      rw [this]; rfl
end Go.Proofs.Ytpocegdlobnhaaa.Cod
end
