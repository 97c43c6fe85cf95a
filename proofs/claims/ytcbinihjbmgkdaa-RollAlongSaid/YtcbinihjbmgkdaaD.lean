/- The walks of New, of a Roll's Sum, and of nil and zero Rolls. -/
import Derived.Test.YtcbinihjbmgkdaaC
set_option linter.unusedVariables false
set_option linter.unusedSimpArgs false
namespace Go.Proofs.Ytcbinihjbmgkdaa
open Go.RowKit

theorem new_bad (a : Option Addr) (cap : Nat) (n : Nat) (w : World) (h : n < 1 ∨ n > 4096) (hn : n ≤ 9223372036854775807) :
    Calls Try.prog 26 #[.slice a n cap] w fun e w' => e = .returned (.tuple #[.pointer none, .int .i64 1]) ∧ w' = w := by
  by_cases h0 : n = 0
  · subst h0
    go_enter Try.func26, Try.ntmps26
    go_wp2
    go_ret2
    exact ⟨rfl, rfl⟩
  · have e0 : decide (n = 0) = false := decide_eq_false h0
    have e1 : decide (4096 < n) = true := decide_eq_true (by omega)
    go_enter Try.func26, Try.ntmps26
    go_wp2
    go_ret2
    exact ⟨rfl, rfl⟩

theorem of_n (a : Option Addr) (n cap : Nat) (xs : List UInt8) (w : World) (hl : xs.length = n) (hn : n ≤ 9223372036854775807) (hr : Rd w a (bs xs)) :
    Calls Try.prog 24 #[.slice a n cap] w fun e w' => e = .returned (.agg #[.int .u16 (sums xs).1, .int .u16 (sums xs).2]) ∧ Keep [] w w' := by
  subst hl; exact of_any a cap xs w hn hr
theorem clone_n (a : Option Addr) (n cap : Nat) (xs : List UInt8) (w : World) (hl : xs.length = n) (hn : n ≤ 140737488355328) (hr : Rd w a (bs xs)) (hc : a = none → cap = 0) :
    Calls Try.prog 30 #[.slice a n cap] w fun e w' => ∃ v, e = .returned v ∧ w'.ownsRow w.heap.size 5 1 v n (bs xs) ∧ Keep [] w w' := by
  subst hl; exact clone_any a cap xs w hn hr hc

set_option maxHeartbeats 800000 in
theorem new_good (a : Option Addr) (n cap : Nat) (xs : List UInt8) (w : World) (hl : xs.length = n) (h1 : 1 ≤ n) (h2 : n ≤ 4096) (hr : Rd w a (bs xs)) (hc : a = none → cap = 0) :
    Calls Try.prog 26 #[.slice a n cap] w fun e w' => ∃ r g, e = .returned (.tuple #[.pointer (some ⟨r, 0, none⟩), .int .i64 0]) ∧ RollAt w' r g xs ∧ w.heap.size ≤ r ∧ w.heap.size ≤ g ∧ Keep [] w w' := by
  have e0 : ((n : Int) == 0) = false := by rw [beq_eq_false_iff_ne]; omega
  have e1 : decide ((4096 : Int) < n) = false := decide_eq_false (by omega)
  have HL := Lib.hid hl
  clear hl
  go_enter Try.func26, Try.ntmps26
  go_wp2_with fail
  refine (clone_n a n cap xs w HL.out (by omega) hr hc).mono ?_
  rintro e w1 ⟨v, rfl, hown, hk1⟩
  have hr1 : Rd w1 a (bs xs) := hr.keep hk1 (by simp)
  go_wp2_with fail
  refine (of_n a n cap xs w1 HL.out (by omega) hr1).mono ?_
  rintro e w2 ⟨rfl, hk2⟩
  have hown2 := owns_keep hown hk2 (by simp)
  have hl := HL.out
  rcases owns_cases hown2 with ⟨_, hx⟩ | ⟨g, cap', cur, rfl, hg, hb, hc', hm⟩
  · exfalso; simp at hx; subst hx; simp at hl; omega
  have hgs := hb.lt
  have HC := Lib.hid hc'
  clear hc' hown hown2 hl
  go_wp2
  go_ret2
  refine ⟨_, g, rfl, ⟨cap', 0, xs, cur, by simp, by rw [HL.out]; omega, by rw [HL.out]; omega, by omega, ?_, hb.alloc _⟩, ?_, hg, ?_⟩
  · have := Blk.new w2 #[.slice (some ⟨g, 0, none⟩) xs.length cap', .int .i64 0, .int .u16 (sums xs).1, .int .u16 (sums xs).2] 49
    simpa [HL.out] using this
  · have := hk1.size; have := hk2.size; omega
  · exact (hk1.trans' hk2).alloc _

theorem sumRoll_any (r g : Nat) (xs : List UInt8) (w : World) (h : RollAt w r g xs) :
    Calls Try.prog 17 #[.pointer (some ⟨r, 0, none⟩)] w fun e w' => e = .returned (.int .i64 (sumOf xs)) ∧ Keep [] w w' := by
  obtain ⟨cap, at_, ring, cur, hxs, hat, hring, hgr, hb, hg⟩ := h.ex
  have hs := sums_range xs
  have c2 := hb.cell (i := 2) rfl
  have c3 := hb.cell (i := 3) rfl
  have HX := Lib.hid hxs
  clear hxs
  go_enter Try.func17, Try.ntmps17
  go_wp2_with fail
  refine (number_any _ _ hs.1 hs.2 w).mono ?_
  rintro e w2 ⟨rfl, hk2⟩
  go_wp2
  go_ret
  exact ⟨rfl, hk2⟩

theorem sumNil_any (w : World) : Calls Try.prog 17 #[.pointer none] w fun e w' => e = .returned (.int .i64 0) ∧ w' = w := by
  go_enter Try.func17, Try.ntmps17
  go_wp2
  go_ret
  exact ⟨rfl, rfl⟩

theorem pushNil_any (x : UInt8) (w : World) : Calls Try.prog 18 #[.pointer none, B8 x] w fun e w' => e = .returned (.int .u8 0) ∧ w' = w := by
  go_enter Try.func18, Try.ntmps18
  go_wp2
  go_ret
  exact ⟨rfl, rfl⟩

/-- A zero Roll. -/
def ZeroRoll (w : World) (r : Nat) : Prop := Blk w r #[.slice none 0 0, .int .i64 0, .int .u16 0, .int .u16 0] 49

theorem sumZero_any (r : Nat) (w : World) (h : ZeroRoll w r) : Calls Try.prog 17 #[.pointer (some ⟨r, 0, none⟩)] w fun e w' => e = .returned (.int .i64 0) ∧ Keep [] w w' := by
  have c2 := Blk.cell h (i := 2) rfl
  have c3 := Blk.cell h (i := 3) rfl
  go_enter Try.func17, Try.ntmps17
  go_wp2_with fail
  refine (number_any 0 0 (by omega) (by omega) w).mono ?_
  rintro e w2 ⟨rfl, hk2⟩
  go_wp2
  go_ret
  exact ⟨rfl, hk2⟩

theorem pushZero_any (r : Nat) (x : UInt8) (w : World) (h : ZeroRoll w r) : Calls Try.prog 18 #[.pointer (some ⟨r, 0, none⟩), B8 x] w fun e w' => e = .returned (.int .u8 0) ∧ w' = w := by
  have c0 := Blk.cell h (i := 0) rfl
  go_enter Try.func18, Try.ntmps18
  go_wp2
  go_ret
  exact ⟨rfl, rfl⟩

end Go.Proofs.Ytcbinihjbmgkdaa
