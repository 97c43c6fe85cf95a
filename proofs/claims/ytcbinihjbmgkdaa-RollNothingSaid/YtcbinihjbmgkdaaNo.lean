/- The law RollNothing: its walk. -/
import Derived.Test.YtcbinihjbmgkdaaF
import Derived.Test.YtcbinihjbmgkdaaOpen
set_option linter.unusedVariables false
set_option linter.unusedSimpArgs false
namespace Go.Proofs.Ytcbinihjbmgkdaa
open Go.RowKit

set_option maxHeartbeats 2000000 in
set_option maxRecDepth 100000 in
theorem rollNothing_walk (a : Option Addr) (n cap : Nat) (xs : List UInt8) (W : World) (h : InBytes W a n cap xs) :
    Calls Try.prog 7 #[.slice a n cap] W fun e w' => e = .returned (.bool true) ∧ Keep [] W w' := by
  have hle := h.hle
  have hreach := h.reach
  have HL := Lib.hid h.hlen
  by_cases hn : 3000 < n
  · have d1 : decide ((3000 : Int) < n) = true := decide_eq_true (by omega)
    go_enter Try.func7, Try.ntmps7
    go_wp2
    go_returns
    exact ⟨rfl, Keep.refl _ _⟩
  · have d1 : decide ((3000 : Int) < n) = false := decide_eq_false (by omega)
    go_enter Try.func7, Try.ntmps7
    go_wp2
    go_loopw [5] (fun i wr => ∃ k : Nat, k ≤ n ∧ i = .int .i64 k ∧ ZeroRoll wr W.heap.size ∧ Keep [] W wr) (fun i _ => n - (intOf i).toNat)
    case atStart => exact ⟨0, by omega, rfl, Blk.new _ _ _, (Keep.refl _ _).alloc _⟩
    case round =>
      obtain ⟨k, hk, rfl, hz, hkp⟩ := hrel
      by_cases hlt : k < n
      · obtain ⟨b, off, rfl, hcell⟩ := (h.rd.keep hkp (by simp)).byte (k := k) (by rw [HL.out]; exact hlt)
        generalize hx : xs[k]'(by rw [HL.out]; exact hlt) = x at hcell
        clear hx
        go_wp2_with fail
        refine (pushNil_any x wr).mono ?_
        rintro e w1 ⟨rfl, rfl⟩
        go_wp2_with fail
        refine (pushZero_any W.heap.size x w1 hz).mono ?_
        rintro e w2 ⟨rfl, rfl⟩
        go_wp2_with fail
        refine (sumNil_any w2).mono ?_
        rintro e w3 ⟨rfl, rfl⟩
        go_wp2_with fail
        refine (sumZero_any W.heap.size w3 hz).mono ?_
        rintro e w4 ⟨rfl, hk4⟩
        have hz4 : ZeroRoll w4 W.heap.size := Blk.keep hz hk4 (by simp)
        have hkp4 := hkp.trans' hk4
        go_wp2
        exact ⟨⟨k + 1, by omega, by go_num, hz4, hkp4⟩, by simp [intOf]; omega⟩
      · go_wp2_with fail
        refine (sumNil_any wr).mono ?_
        rintro e w3 ⟨rfl, rfl⟩
        go_wp2_with fail
        refine (sumZero_any W.heap.size w3 hz).mono ?_
        rintro e w4 ⟨rfl, hk4⟩
        have hkp4 := hkp.trans' hk4
        go_wp2_with fail
        refine (known_any w4).mono ?_
        rintro e w5 ⟨rfl, hk5⟩
        go_wp2
        go_returns
        exact ⟨rfl, hkp4.trans' hk5⟩
end Go.Proofs.Ytcbinihjbmgkdaa
