/- alike, same: lists compared. -/
import Derived.Test.YtgeihjpifbkpkaaDoorSa
set_option linter.unusedVariables false
set_option linter.unusedSimpArgs false
namespace Go.Proofs.YtgeihjpifbkpkaaDoor
open Go.RowKit
attribute [local go_sem ↓] Go.wp_at_zero Go.wp_at_succ eql_ent

set_option maxHeartbeats 4000000 in
set_option maxRecDepth 100000 in
theorem alike_any (a b : Option Addr) (n c m d : Nat) (xs ys : List Ent) (w : World) (hx : EsIn w a n c xs) (hy : EsIn w b m d ys) :
    Calls Tryd.prog 21 #[.slice a n c, .slice b m d] w fun e w' => e = .returned (.bool (decide (xs = ys))) ∧ Keep [] w w' := by
  have hxl := hx.hlen
  have hyl := hy.hlen
  have m1 := hx.short
  have HX := Lib.hid hxl
  have HY := Lib.hid hyl
  by_cases hnm : n = m
  · subst hnm
    clear hxl hyl
    obtain ⟨N, hN, hso⟩ := size37
    have HN := Lib.hid hN
    clear hN
    go_enter Tryd.func21, Tryd.ntmps21
    go_upto_region 3 with fail
    go_wp2_with fail
    go_loopw [5] (fun v wr => ∃ i, i ≤ n ∧ v = .int .i64 (i : Nat) ∧ Hid (xs.take i = ys.take i) ∧ Keep [] w wr) (fun v _ => n - (intOf v).toNat)
    case atStart => exact ⟨0, by omega, rfl, Lib.hid (by simp), Keep.refl _ _⟩
    case round =>
      obtain ⟨i, hi, rfl, HT, kk⟩ := hrel
      by_cases hlt : i < n
      · obtain ⟨x, b1, o1, ex, rfl, rx⟩ := (hx.keep kk (by simp)).at hlt
        obtain ⟨y, b2, o2, ey, rfl, ry⟩ := (hy.keep kk (by simp)).at hlt
        have i0 : (0 : Int) ≤ i := by omega
        have i1 : (i : Int) < n := by omega
        rw [HN.out] at rx ry
        have l1 := load_range rx (x.len.trans HN.out)
        have l2 := load_range ry (y.len.trans HN.out)
        have HEX := Lib.hid ex
        have HEY := Lib.hid ey
        clear ex ey rx ry
        by_cases hxy : x = y
        · have t1 : decide (x = y) = true := by simpa using hxy
          have HXY := Lib.hid hxy
          clear hxy
          go_wp2_with fail
          go_quiet (fail)
          go_wp2_with fail
          refine ⟨⟨i + 1, by omega, by go_num, Lib.hid ?_, kk.drewN⟩, by simp [intOf]; omega⟩
          rw [List.take_add_one, List.take_add_one, HT.out, HEX.out, HEY.out, HXY.out]
        · have t1 : decide (x = y) = false := by simpa using hxy
          have HXY := Lib.hid hxy
          clear hxy
          go_wp2_with fail
          go_quiet (fail)
          go_wp2_with fail
          go_returns
          refine ⟨?_, kk.drewN⟩
          rw [decide_eq_false (fun e => HXY.out (by have h1 := HEX.out; have h2 := HEY.out; rw [e, h2] at h1; exact (Option.some.inj h1).symm))]
          rfl
      · have e : i = n := by omega
        have HE := Lib.hid e
        clear e
        go_wp2_with fail
        go_returns
        refine ⟨?_, kk⟩
        have := HT.out
        rw [List.take_of_length_le (by rw [HX.out, HE.out]; exact Nat.le_refl _), List.take_of_length_le (by rw [HY.out, HE.out]; exact Nat.le_refl _)] at this
        rw [decide_eq_true this]
        rfl
  · have hne : ((n : Int) != m) = true := by simp; omega
    have HNM := Lib.hid hnm
    clear hnm hxl hyl
    go_enter Tryd.func21, Tryd.ntmps21
    go_wp2_with fail
    go_returns
    refine ⟨?_, Keep.refl _ _⟩
    rw [decide_eq_false (fun e => HNM.out (by have h1 := HX.out; have h2 := HY.out; rw [e] at h1; omega))]
    rfl
end Go.Proofs.YtgeihjpifbkpkaaDoor
