/- same: two rows are alike. -/
import Derived.Test.YtlpinbkgbnbkhaaSm
import Derived.Test.YtlpinbkgbnbkhaaV
set_option linter.unusedVariables false
set_option linter.unusedSimpArgs false
namespace Go.Proofs.Ytlpinbkgbnbkhaa
open Go.RowKit

set_option maxHeartbeats 2000000 in
theorem same_any (a a' : Option Addr) (n n' c c' : Nat) (xs ys : List UInt8) (w : World) (hl : xs.length = n) (hl' : ys.length = n') (hn : n ≤ 140737488355328) (hr : Rd w a (bs xs)) (hr' : Rd w a' (bs ys)) :
    Calls Try.prog 42 #[.slice a n c, .slice a' n' c'] w fun e w' => e = .returned (.bool (xs == ys)) ∧ ∃ m, w' = w.drewN m := by
  by_cases hlen : n = n'
  · subst hlen
    have HL := Lib.hid hl
    have HL' := Lib.hid hl'
    clear hl hl'
    go_enter Try.func42, Try.ntmps42
    go_wp2_with fail
    go_loopw [5] (fun i wr => ∃ k m : Nat, k ≤ n ∧ i = .int .i64 k ∧ wr = w.drewN m ∧ Hid (xs.take k = ys.take k)) (fun i _ => n - (intOf i).toNat)
    case atStart => exact ⟨0, 0, by omega, rfl, rfl, Lib.hid rfl⟩
    case round =>
      obtain ⟨k, m, hk, rfl, rfl, HT⟩ := hrel
      by_cases hlt : k < n
      · obtain ⟨b, off, rfl, hcell⟩ := hr.byte (k := k) (by have := HL.out; omega)
        obtain ⟨b', off', rfl, hcell'⟩ := hr'.byte (k := k) (by have := HL'.out; omega)
        obtain ⟨x, hx⟩ : ∃ x, xs[k]? = some x := ⟨_, List.getElem?_eq_getElem (by have := HL.out; omega)⟩
        obtain ⟨y, hy⟩ : ∃ x, ys[k]? = some x := ⟨_, List.getElem?_eq_getElem (by have := HL'.out; omega)⟩
        have e1 : xs[k]'(by have := HL.out; omega) = x := by
          rw [List.getElem?_eq_getElem (by have := HL.out; omega)] at hx; exact Option.some.inj hx
        have e2 : ys[k]'(by have := HL'.out; omega) = y := by
          rw [List.getElem?_eq_getElem (by have := HL'.out; omega)] at hy; exact Option.some.inj hy
        rw [e1] at hcell
        rw [e2] at hcell'
        have HX := Lib.hid hx
        have HY := Lib.hid hy
        have i1 : (k : Int) < n := by omega
        clear hx hy e1 e2 hr hr' hlt
        by_cases he : x = y
        · subst he
          go_wp2_with fail
          go_quiet (fail)
          go_wp2_with fail
          refine ⟨⟨k + 1, m + nq, by omega, by go_num, rfl, Lib.hid ?_⟩, by simp [intOf]; omega⟩
          rw [List.take_add_one, List.take_add_one, HX.out, HY.out, HT.out]
        · have hne : (((x.toNat : Nat) : Int) == ((y.toNat : Nat) : Int)) = false := by
            simp only [beq_eq_false_iff_ne, ne_eq]
            intro h; exact he (UInt8.toNat_inj.1 (by omega))
          have hne2 : (((x.toNat : Nat) : Int) != ((y.toNat : Nat) : Int)) = true := by simpa using hne
          have HE := Lib.hid he
          clear he
          go_wp2_with fail
          go_quiet (fail)
          go_wp2_with fail
          go_returns
          have hb : (xs == ys) = false := by
            rw [beq_eq_false_iff_ne]; rintro rfl
            have h1 := HX.out; rw [HY.out] at h1; exact HE.out (Option.some.inj h1).symm
          exact ⟨by rw [hb]; rfl, m + nq, World.drewN_drewN ..⟩
      · go_wp2_with fail
        go_returns
        have hb : (xs == ys) = true := by
          have h1 := HT.out
          rw [List.take_of_length_le (by have := HL.out; omega), List.take_of_length_le (by have := HL'.out; omega)] at h1
          rw [h1]; simp
        exact ⟨by rw [hb]; rfl, m, rfl⟩
  · have hb : (xs == ys) = false := by
      rw [beq_eq_false_iff_ne]; rintro rfl; omega
    have t1 : ((n : Int) == n') = false := by simp; omega
    have t2 : ((n : Int) != n') = true := by simp; omega
    have HB := Lib.hid hb
    clear hb hl hl' hlen
    go_enter Try.func42, Try.ntmps42
    go_wp2_with fail
    go_returns
    exact ⟨by rw [HB.out]; rfl, 0, rfl⟩
end Go.Proofs.Ytlpinbkgbnbkhaa
