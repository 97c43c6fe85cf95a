/- untouched: the rows and the marks are as they were. -/
import Derived.Test.YtlpinbkgbnbkhaaAa
set_option linter.unusedVariables false
set_option linter.unusedSimpArgs false
namespace Go.Proofs.Ytlpinbkgbnbkhaa
open Go.RowKit

theorem gath_cell {base : Nat} {w : World} {g off k c i : Nat} {vs : List Value} {v : Value} (h : Gath base w (some ⟨g, off, none⟩) k c vs) (hv : vs[i]? = some v) : w.cell? ⟨g, off + i, none⟩ = some v := by
  have h1 := (Sl.use h.own).2.2.1
  rcases h1 with h2 | ⟨b, o, e, h2⟩
  · subst h2; simp at hv
  · cases e; exact h2 i v hv

set_option maxHeartbeats 4000000 in
set_option maxRecDepth 100000 in
theorem untouched_any (base : Nat) (a : Option Addr) (n c : Nat) (xss : List (List UInt8)) (b : Option Addr) (cap : Nat) (w : World) (hh : Held base w a n c xss) (hx : InRows w b n cap xss) (ht : totR xss + n ≤ 3000000) :
    Calls Try.prog 18 #[.slice a n c, .slice b n cap] w fun e w' => e = .returned (.bool true) ∧ Keep [] w w' := by
  obtain ⟨vs, hG, hR, hM⟩ := hh
  obtain ⟨g, off, rfl⟩ := hG.some (by omega)
  have hle : n + 3 ≤ c := (Sl.use hG.own).2.2.2.1
  have hmx : c ≤ maxLen := (Sl.use hG.own).2.2.2.2
  simp only [maxLen] at hmx
  have HL := Lib.hid hx.hlen
  go_enter Try.func18, Try.ntmps18
  go_wp2_with fail
  go_loopw [5] (fun v5 wr => ∃ i : Nat, i ≤ n ∧ v5 = .int .i64 (i : Nat) ∧ Keep [] w wr) (fun v5 _ => n - (intOf v5).toNat)
  case atStart => exact ⟨0, by omega, rfl, Keep.refl _ _⟩
  case round =>
    obtain ⟨i, hi, rfl, hkw⟩ := hrel
    have hG' := hG.keep hkw
    have hR' := hR.keep hkw (by simp)
    have hM' := hM.keep hkw (by simp)
    by_cases hlt : i < n
    · obtain ⟨x, b', off', ai, li, ci, hc, rfl, d0, hin⟩ := (hx.keep hkw).at hlt
      obtain ⟨a1, c1, hv, hr⟩ := hR' i x hlt hc
      have e0 := gath_cell hG' hv
      have hl2 := hin.hlen
      rw [hl2] at e0 hr
      have hle2 : li ≤ 3000000 := by
        have h1 := totR_take hc
        have h2 := totR_le xss (i + 1)
        omega
      have kd : Keep [] wr wr.drew := (Keep.refl _ _).drew
      have C1 := Lib.hid (untouchedRow_any a1 li c1 x ai li ci wr.drew (Sl.keep hr kd (by simp)) (hin.keep kd (by simp)) hle2 rfl)
      clear hc hv hr hin hl2 hG' hR' hM'
      go_upto_region 6 with fail
      go_region_with ((go_at_call 30; go_must (refine C1.out.mono ?_); go_must (rintro e w6 ⟨rfl, k6, rfl⟩)))
      all_goals go_wp2_with fail
      all_goals exact ⟨⟨i + 1, by omega, by go_num, hkw.drewN⟩, by simp [intOf]; omega⟩
    · obtain rfl : i = n := by omega
      go_wp2_with fail
      go_loop [7] (fun v7 => ∃ j : Nat, j ≤ 3 ∧ v7 = .int .i64 ((i + j : Nat) : Int)) (fun v7 => i + 3 - (intOf v7).toNat)
      case atStart => exact ⟨0, by omega, rfl⟩
      case round =>
        obtain ⟨j, hj, rfl⟩ := hrel
        by_cases hlt2 : j < 3
        · obtain ⟨am, cm, hv, hs⟩ := hM' j hlt2
          have e0 := gath_cell hG' hv
          obtain ⟨b9, o9, rfl, e1⟩ := Rd.at (k := 0) (Sl.use hs).2.2.1 (by simp)
          simp only [List.getElem_cons_zero, Nat.add_zero] at e1
          clear hv hs
          go_wp2_with fail
          exact ⟨⟨j + 1, by omega, by go_num⟩, by simp [intOf]; omega⟩
        · obtain rfl : j = 3 := by omega
          go_wp2_with fail
          go_returns
          exact ⟨rfl, hkw⟩
end Go.Proofs.Ytlpinbkgbnbkhaa
