/- same: bytes compared. -/
import Derived.Test.YtgeihjpifbkpkaaDoorRe
set_option linter.unusedVariables false
set_option linter.unusedSimpArgs false
namespace Go.Proofs.YtgeihjpifbkpkaaDoor
open Go.RowKit

theorem Rd.byteAt {w : World} {a : Option Addr} {xs : List UInt8} {i : Nat} (h : Rd w a (bs xs)) (hi : i < xs.length) : ∃ x b off, xs[i]? = some x ∧ a = some ⟨b, off, none⟩ ∧ w.cell? ⟨b, off + i, none⟩ = some (B8 x) := by
  have hg := List.getElem?_eq_getElem hi
  rcases h with e | ⟨b, off, e, hc⟩
  · have := congrArg List.length e
    rw [bs_length, List.length_nil] at this; omega
  · exact ⟨_, b, off, hg, e, hc i _ (by simp [bs, hg])⟩

set_option maxHeartbeats 2000000 in
set_option maxRecDepth 100000 in
theorem same_any (a b : Option Addr) (n c m d : Nat) (xs ys : List UInt8) (w : World) (hx : xs.length = n) (rx : Rd w a (bs xs)) (hy : ys.length = m) (ry : Rd w b (bs ys)) (hn : n ≤ 140737488355328) :
    Calls Tryd.prog 16 #[.slice a n c, .slice b m d] w fun e w' => e = .returned (.bool (decide (xs = ys))) ∧ Keep [] w w' := by
  have HX := Lib.hid hx
  have HY := Lib.hid hy
  by_cases hnm : n = m
  · subst hnm
    clear hx hy
    go_enter Tryd.func16, Tryd.ntmps16
    go_upto_region 3 with fail
    go_wp2_with fail
    go_loopw [5] (fun v wr => ∃ i, i ≤ n ∧ v = .int .i64 (i : Nat) ∧ Hid (xs.take i = ys.take i) ∧ Keep [] w wr) (fun v _ => n - (intOf v).toNat)
    case atStart => exact ⟨0, by omega, rfl, Lib.hid (by simp), Keep.refl _ _⟩
    case round =>
      obtain ⟨i, hi, rfl, HT, kk⟩ := hrel
      by_cases hlt : i < n
      · obtain ⟨x, b1, o1, ex, rfl, cx⟩ := Rd.byteAt (rx.keep kk (fun _ => by simp)) (i := i) (by rw [HX.out]; exact hlt)
        obtain ⟨y, b2, o2, ey, rfl, cy⟩ := Rd.byteAt (ry.keep kk (fun _ => by simp)) (i := i) (by rw [HY.out]; exact hlt)
        have i0 : (0 : Int) ≤ i := by omega
        have i1 : (i : Int) < n := by omega
        have HEX := Lib.hid ex
        have HEY := Lib.hid ey
        clear ex ey
        by_cases hxy : x = y
        · subst hxy
          go_wp2_with fail
          go_quiet (fail)
          go_wp2_with fail
          refine ⟨⟨i + 1, by omega, by go_num, Lib.hid ?_, kk.drewN⟩, by simp [intOf]; omega⟩
          rw [List.take_add_one, List.take_add_one, HT.out, HEX.out, HEY.out]
        · have t1 : (((x.toNat : Nat) : Int) == (y.toNat : Nat)) = false := by simp only [beq_eq_false_iff_ne]; intro e; exact hxy (UInt8.toNat_inj.1 (by omega))
          have t2 : ¬ ((x.toNat : Nat) : Int) = (y.toNat : Nat) := by intro e; exact hxy (UInt8.toNat_inj.1 (by omega))
          have HXY := Lib.hid hxy
          clear hxy
          go_wp2_with fail
          go_quiet (fail)
          go_wp2_with fail
          go_returns
          refine ⟨?_, kk.drewN⟩
          rw [decide_eq_false (fun e => HXY.out (by have h1 := HEX.out; have h2 := HEY.out; rw [e, h2] at h1; exact (Option.some.inj h1).symm))]
          rfl
      · have e : i = n := by omega
        have HE := Lib.hid e
        clear e
        go_wp2_with fail
        go_returns
        refine ⟨?_, kk⟩
        have := HT.out
        rw [List.take_of_length_le (by rw [HX.out, HE.out]; exact Nat.le_refl _), List.take_of_length_le (by rw [HY.out, HE.out]; exact Nat.le_refl _)] at this
        rw [decide_eq_true this]
        rfl
  · have q : ¬ (n : Int) = m := by omega
    have q2 : ((n : Int) == m) = false := by simp; omega
    have HNM := Lib.hid hnm
    clear hnm hx hy
    go_enter Tryd.func16, Tryd.ntmps16
    go_wp2_with fail
    go_returns
    exact ⟨by rw [decide_eq_false (fun e => HNM.out (by rw [← HX.out, ← HY.out, e]))]; rfl, Keep.refl _ _⟩
end Go.Proofs.YtgeihjpifbkpkaaDoor
