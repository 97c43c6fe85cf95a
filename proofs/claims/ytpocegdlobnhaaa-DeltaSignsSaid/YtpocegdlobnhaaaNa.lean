/- May these be a width, a size? Are the bytes of an id behind its width noughts? (isWidth, isSize, narrow; sized, noughts.) -/
import Derived.Test.YtpocegdlobnhaaaWk
set_option linter.unusedVariables false
set_option linter.unusedSimpArgs false
set_option maxRecDepth 100000
namespace Go.Proofs.Ytpocegdlobnhaaa
open Go.RowKit

def okW (v : Int) : Bool := decide (1 ≤ v ∧ v ≤ 32)
def okS (v : Int) : Bool := decide (16 ≤ v ∧ v ≤ 4096)
theorem isWidth_any (v : Int) (w : World) : Calls Try.prog 41 #[.int .i64 v] w fun e w' => e = .returned (.bool (okW v)) ∧ w' = w := by
  unfold okW
  by_cases h1 : 1 ≤ v
  · by_cases h2 : v ≤ 32
    · rw [decide_eq_true ⟨h1, h2⟩]
      go_enter Try.func41, Try.ntmps41
      go_wp2_with fail
      go_returns
      exact ⟨rfl, rfl⟩
    · rw [decide_eq_false (fun h => h2 h.2)]
      go_enter Try.func41, Try.ntmps41
      go_wp2_with fail
      go_returns
      exact ⟨rfl, rfl⟩
  · rw [decide_eq_false (fun h => h1 h.1)]
    go_enter Try.func41, Try.ntmps41
    go_wp2_with fail
    go_returns
    exact ⟨rfl, rfl⟩
theorem isSize_any (v : Int) (w : World) : Calls Try.prog 42 #[.int .i64 v] w fun e w' => e = .returned (.bool (okS v)) ∧ w' = w := by
  unfold okS
  by_cases h1 : 16 ≤ v
  · by_cases h2 : v ≤ 4096
    · rw [decide_eq_true ⟨h1, h2⟩]
      go_enter Try.func42, Try.ntmps42
      go_wp2_with fail
      go_returns
      exact ⟨rfl, rfl⟩
    · rw [decide_eq_false (fun h => h2 h.2)]
      go_enter Try.func42, Try.ntmps42
      go_wp2_with fail
      go_returns
      exact ⟨rfl, rfl⟩
  · rw [decide_eq_false (fun h => h1 h.1)]
    go_enter Try.func42, Try.ntmps42
    go_wp2_with fail
    go_returns
    exact ⟨rfl, rfl⟩
theorem sized_any (v z : Int) (w : World) : Calls Try.prog 45 #[.int .i64 v, .int .i64 z] w fun e w' => e = .returned (.bool (okW v && okS z)) ∧ w' = w := by
  by_cases h1 : 1 ≤ v
  · by_cases h2 : v ≤ 32
    · by_cases h3 : 16 ≤ z
      · by_cases h4 : z ≤ 4096
        · have e : (okW v && okS z) = true := by simp [okW, okS]; omega
          rw [e]
          go_enter Try.func45, Try.ntmps45
          go_wp2_with fail
          go_returns
          exact ⟨rfl, rfl⟩
        · have e : (okW v && okS z) = false := by simp [okW, okS]; omega
          rw [e]
          go_enter Try.func45, Try.ntmps45
          go_wp2_with fail
          go_returns
          exact ⟨rfl, rfl⟩
      · have e : (okW v && okS z) = false := by simp [okW, okS]; omega
        rw [e]
        go_enter Try.func45, Try.ntmps45
        go_wp2_with fail
        go_returns
        exact ⟨rfl, rfl⟩
    · have e : (okW v && okS z) = false := by simp [okW, okS]; omega
      rw [e]
      go_enter Try.func45, Try.ntmps45
      go_wp2_with fail
      go_returns
      exact ⟨rfl, rfl⟩
  · have e : (okW v && okS z) = false := by simp [okW, okS]; omega
    rw [e]
    go_enter Try.func45, Try.ntmps45
    go_wp2_with fail
    go_returns
    exact ⟨rfl, rfl⟩

/-- Are the bytes behind the first v noughts? -/
def noB (xs : List UInt8) (v : Nat) : Bool := (xs.drop v).all (· == 0)
theorem noB_step {xs : List UInt8} {v : Nat} {x : UInt8} (h : xs[v]? = some x) : noB xs v = (x == 0 && noB xs (v + 1)) := by
  obtain ⟨hi, e⟩ := List.getElem?_eq_some_iff.1 h
  unfold noB; rw [List.drop_eq_getElem_cons hi, e]; rfl
theorem noB_end {xs : List UInt8} {v : Nat} (h : xs.length ≤ v) : noB xs v = true := by unfold noB; rw [List.drop_eq_nil_of_le h]; rfl

set_option maxHeartbeats 1000000 in
theorem noughts_any (xs : List UInt8) (v : Nat) (w : World) (hx : xs.length = 32) : Calls Try.prog 80 #[.agg (bs xs).toArray, .int .i64 (v : Nat)] w fun e w' => e = .returned (.bool (noB xs v)) ∧ Keep [] w w' := by
  obtain ⟨ans, hans⟩ : ∃ a, noB xs v = a := ⟨_, rfl⟩
  have B0 : Blk (w.alloc (.cells (bs xs).toArray 26)) w.heap.size (bs xs).toArray 26 := Blk.new _ _ _
  have k0 : Keep [] w (w.alloc (.cells (bs xs).toArray 26)) := (Keep.refl [] w).alloc _
  obtain ⟨W, hW⟩ : ∃ W, w.alloc (.cells (bs xs).toArray 26) = W := ⟨_, rfl⟩
  obtain ⟨b, hb⟩ : ∃ b, w.heap.size = b := ⟨_, rfl⟩
  rw [hW, hb] at B0
  rw [hW] at k0
  have HW := Lib.hid hW
  have HX := Lib.hid hx
  have HA := Lib.hid hans
  have HB := Lib.hid hb
  rw [hans]
  clear hW hx hans
  go_enter Try.func80, Try.ntmps80
  go_upto_region 1 with (first
    | (refine Go.Great.wpList_boxTo rfl 26 (.tmp 0) rfl (some 2) rfl b hb (bs xs).toArray rfl ?_; rw [HW.out])
    | fail)
  clear hb
  go_upto_region 2 with fail
  go_loopw [5] (fun v5 wr => ∃ i : Nat, v5 = .int .i64 (i : Nat) ∧ Hid (noB xs i = ans) ∧ wr = W) (fun v5 _ => 33 - (intOf v5).toNat)
  case atStart => exact ⟨v, rfl, HA, rfl⟩
  case round =>
    obtain ⟨i, rfl, HI, rfl⟩ := hrel
    by_cases hlt : i < 32
    · obtain ⟨x, hx⟩ : ∃ x, xs[i]? = some x := ⟨_, List.getElem?_eq_getElem (by rw [HX.out]; exact hlt)⟩
      have HS := Lib.hid (noB_step hx)
      have cx : wr.cell? ⟨b, i, none⟩ = some (.int .u8 (x.toNat : Nat)) := B0.cell (by rw [List.getElem?_toArray, bs, List.getElem?_map, hx]; rfl)
      obtain ⟨z, hz⟩ : ∃ z, x.toNat = z := ⟨_, rfl⟩
      have HZ := Lib.hid hz
      rw [hz] at cx
      have i1 : (i : Int) < 32 := by omega
      have i0 : (0 : Int) ≤ i := by omega
      clear hx hz
      by_cases h0 : z = 0
      · have i2 : ((z : Int) == 0) = true := by simp; omega
        have i3 : (z : Int) = 0 := by omega
        have hx0 : (x == 0) = true := by
          have := HZ.out
          rw [beq_iff_eq]; exact UInt8.toNat_inj.1 (by rw [this, h0]; rfl)
        have HN := Lib.hid (show noB xs (i + 1) = ans by rw [← HI.out, HS.out, hx0, Bool.true_and])
        clear hx0
        go_wp2_with fail
        exact ⟨⟨i + 1, by go_num, HN, trivial⟩, by simp [intOf]; omega⟩
      · have i2 : ((z : Int) == 0) = false := by simp; omega
        have i3 : ¬ (z : Int) = 0 := by omega
        have hx0 : (x == 0) = false := by
          rw [beq_eq_false_iff_ne]; intro e; subst e; exact h0 (by rw [← HZ.out]; rfl)
        have HN := Lib.hid (show ans = false by rw [← HI.out, HS.out, hx0, Bool.false_and])
        clear hx0
        go_wp2_with fail
        go_returns
        exact ⟨by rw [HN.out]; rfl, k0⟩
    · have i1 : ¬ (i : Int) < 32 := by omega
      have HN := Lib.hid (show ans = true by rw [← HI.out, noB_end (by rw [HX.out]; omega)])
      go_wp2_with fail
      go_returns
      exact ⟨by rw [HN.out]; rfl, k0⟩

set_option maxHeartbeats 1000000 in
theorem narrow_any (xs : List UInt8) (v : Nat) (w : World) (hx : xs.length = 32) (hv : v ≤ 32) : Calls Try.prog 76 #[.agg (bs xs).toArray, .int .i64 (v : Nat)] w fun e w' => e = .returned (.bool (noB xs v)) ∧ Keep [] w w' := by
  obtain ⟨ans, hans⟩ : ∃ a, noB xs v = a := ⟨_, rfl⟩
  have B0 : Blk (w.alloc (.cells (bs xs).toArray 26)) w.heap.size (bs xs).toArray 26 := Blk.new _ _ _
  have k0 : Keep [] w (w.alloc (.cells (bs xs).toArray 26)) := (Keep.refl [] w).alloc _
  obtain ⟨W, hW⟩ : ∃ W, w.alloc (.cells (bs xs).toArray 26) = W := ⟨_, rfl⟩
  obtain ⟨b, hb⟩ : ∃ b, w.heap.size = b := ⟨_, rfl⟩
  rw [hW, hb] at B0
  rw [hW] at k0
  have HW := Lib.hid hW
  have HX := Lib.hid hx
  have HA := Lib.hid hans
  rw [hans]
  clear hW hx hans
  have j1 : (v : Int) ≤ 32 := by omega
  by_cases h32 : v = 32
  · subst h32
    have HN := Lib.hid (show ans = true by rw [← HA.out, noB_end (by rw [HX.out]; omega)])
    go_enter Try.func76, Try.ntmps76
    go_upto_region 1 with (first
      | (refine Go.Great.wpList_boxTo rfl 26 (.tmp 0) rfl (some 2) rfl b hb (bs xs).toArray rfl ?_; rw [HW.out])
      | fail)
    clear hb
    go_upto_region 2 with fail
    go_loopw [10] (fun v10 wr => v10 = .int .i64 0 ∧ wr = W) (fun _ _ => 0)
    case atStart => exact ⟨rfl, rfl⟩
    case round =>
      obtain ⟨rfl, rfl⟩ := hrel
      go_wp2_with fail
      go_returns
      exact ⟨by rw [HN.out]; rfl, k0⟩
  have h32' : v < 32 := by omega
  obtain ⟨m, hm⟩ : ∃ m, 32 - v = m := ⟨_, rfl⟩
  have hvm : v + m = 32 := by omega
  go_enter Try.func76, Try.ntmps76
  go_upto_region 1 with (first
    | (refine Go.Great.wpList_boxTo rfl 26 (.tmp 0) rfl (some 2) rfl b hb (bs xs).toArray rfl ?_; rw [HW.out])
    | fail)
  clear hb
  have h32'' : ¬ 32 = v := by omega
  go_upto_region 2 with fail
  go_loopw [10] (fun v10 wr => ∃ i : Nat, i ≤ m ∧ v10 = .int .i64 (i : Nat) ∧ Hid (noB xs (v + i) = ans) ∧ wr = W) (fun v10 _ => 33 - (intOf v10).toNat)
  case atStart => exact ⟨0, by omega, rfl, HA, rfl⟩
  case round =>
    obtain ⟨i, hi, rfl, HI, rfl⟩ := hrel
    by_cases hlt : i < m
    · obtain ⟨x, hx⟩ : ∃ x, xs[v + i]? = some x := ⟨_, List.getElem?_eq_getElem (by rw [HX.out]; omega)⟩
      have HS := Lib.hid (noB_step hx)
      have cx : wr.cell? ⟨b, v + i, none⟩ = some (.int .u8 (x.toNat : Nat)) := B0.cell (by rw [List.getElem?_toArray, bs, List.getElem?_map, hx]; rfl)
      obtain ⟨z, hz⟩ : ∃ z, x.toNat = z := ⟨_, rfl⟩
      have HZ := Lib.hid hz
      rw [hz] at cx
      have i1 : (i : Int) < m := by omega
      have i0 : (0 : Int) ≤ i := by omega
      clear hx hz
      by_cases h0 : z = 0
      · have i2 : ((z : Int) == 0) = true := by simp; omega
        have i3 : (z : Int) = 0 := by omega
        have hx0 : (x == 0) = true := by
          have := HZ.out
          rw [beq_iff_eq]; exact UInt8.toNat_inj.1 (by rw [this, h0]; rfl)
        have HN := Lib.hid (show noB xs (v + (i + 1)) = ans by rw [← HI.out, HS.out, hx0, Bool.true_and, Nat.add_assoc])
        clear hx0
        go_wp2_with fail
        exact ⟨⟨i + 1, by omega, by go_num, HN, trivial⟩, by simp [intOf]; omega⟩
      · have i2 : ((z : Int) == 0) = false := by simp; omega
        have i3 : ¬ (z : Int) = 0 := by omega
        have hx0 : (x == 0) = false := by
          rw [beq_eq_false_iff_ne]; intro e; subst e; exact h0 (by rw [← HZ.out]; rfl)
        have HN := Lib.hid (show ans = false by rw [← HI.out, HS.out, hx0, Bool.false_and])
        clear hx0
        go_wp2_with fail
        go_returns
        exact ⟨by rw [HN.out]; rfl, k0⟩
    · obtain rfl : i = m := by omega
      have HN := Lib.hid (show ans = true by rw [← HI.out, noB_end (by rw [HX.out]; omega)])
      go_wp2_with fail
      go_returns
      exact ⟨by rw [HN.out]; rfl, k0⟩
end Go.Proofs.Ytpocegdlobnhaaa
