/- 'nested'. -/
import Derived.Test.YtcbinihjbmgkdaaWi
set_option linter.unusedVariables false
set_option linter.unusedSimpArgs false
namespace Go.Proofs.Ytcbinihjbmgkdaa
open Go.RowKit

theorem nested_win (a : Option Addr) (l cap : Nat) (xs : List UInt8) (size : Int) (N : Nat) (qs qd gd : Nat) (w V : World) (h : InBytes w a l cap xs) (hat : WinAt w qs qd gd size xs) (hlt : qs < w.heap.size ∧ qd < w.heap.size ∧ gd < w.heap.size)
    (hw : -9223372036854775808 ≤ size ∧ size ≤ 9223372036854775807) (hN : winCount xs.length size = N) (pt po pu pn pd ps : Nat) (hk : Keep [] w V)
    (hit : Blk V pt #[.func (.func 31) #[] #[.pointer (some ⟨qs, 0, none⟩), .pointer (some ⟨qd, 0, none⟩)]] 39)
    (ho : Blk V po #[.bool true] 4) (hu : Blk V pu #[.int .i64 0] 3) (hn : Blk V pn #[.int .i64 N] 3) (hd : Blk V pd #[.slice a l cap] 23) (hs : Blk V ps #[.int .i64 size] 3)
    (hne : po ≠ pu ∧ po ≠ pn ∧ po ≠ pt ∧ po ≠ pd ∧ po ≠ ps ∧ pu ≠ pn ∧ pu ≠ pt ∧ pu ≠ pd ∧ pu ≠ ps) (hge : w.heap.size ≤ po ∧ w.heap.size ≤ pu) :
    Calls Try.prog 31 #[.func (.func 32) #[] #[.pointer (some ⟨pt, 0, none⟩), .pointer (some ⟨po, 0, none⟩), .pointer (some ⟨pu, 0, none⟩), .pointer (some ⟨pn, 0, none⟩), .pointer (some ⟨pd, 0, none⟩), .pointer (some ⟨ps, 0, none⟩)], .pointer (some ⟨qs, 0, none⟩), .pointer (some ⟨qd, 0, none⟩)] V
      fun e w' => e = .returned (.tuple #[]) ∧ Keep [po, pu] V w' ∧ Blk w' po #[.bool true] 4 ∧ ∃ v : Nat, (v = N ∨ v = 5) ∧ Blk w' pu #[.int .i64 v] 3 := by
  have hatV := hat.keep hk (by simp) (by simp) (by simp)
  have hsz := hk.size
  have hiV := h.keep hk (by simp)
  have hol := ho.lt
  have hul := hu.lt
  have hle := h.hle
  have hreach := h.reach
  have hNle : N ≤ 9223372036854775807 := by
    rw [← hN, h.hlen]; unfold winCount; split <;> omega
  refine (windows_go 32 _ qs qd gd size xs V [po, pu] (fun j w' => Blk w' po #[.bool true] 4 ∧ Blk w' pu #[.int .i64 (j : Nat)] 3 ∧ j ≤ 4) (fun w' => Blk w' po #[.bool true] 4 ∧ Blk w' pu #[.int .i64 5] 3)
    call32 hatV (by omega) hw (by simp; omega) (by simp; omega) ⟨ho, hu, by omega⟩ ?_ ?_).mono ?_
  · rintro j w1 w2 ⟨a1, a2, a3⟩ hkk
    rcases hkk with hkk | ⟨sb, hsb, hkk⟩
    · exact ⟨a1.keep hkk (by simp), a2.keep hkk (by simp), a3⟩
    · exact ⟨a1.keep hkk (by simp; omega), a2.keep hkk (by simp; omega), a3⟩
  · rintro j w1 hs1 hs2 hs3 hkk ⟨a1, a2, a3⟩
    obtain ⟨n, rfl⟩ : ∃ n : Nat, size = n := ⟨size.toNat, by omega⟩
    have hlx := h.hlen
    simp only [Int.toNat_natCast] at hs2
    obtain ⟨b, off, rfl, hr⟩ := hiV.rd.window (k := j) (n := n) (by omega) hs2
    have hbV : b < w.heap.size := h.rd.lt (k := 0) (by simp only [bs_length]; omega)
    have hr1 := hr.keep hkk (fun _ => by simp [ablk]; omega)
    refine (outer_any b off l cap pt po pu pn pd ps qs qd gd xs n N j (window xs n j) w1 (hit.keep hkk (by simp; omega)) (hatV.keep hkk (by simp; omega) (by simp; omega) (by simp; omega))
      (by have := hkk.size; omega) a1 a2 (hn.keep hkk (by simp; omega)) (hd.keep hkk (by simp; omega)) (hs.keep hkk (by simp; omega)) (by omega) (by omega) hN hr1 (by omega) (window_len (by omega)) hle (by omega) (by omega) (by omega) (by omega) hNle a3).mono ?_
    rintro e w2 ⟨rfl, b1, b2, b3⟩
    refine ⟨_, rfl, b3, fun hb => ⟨b1, b2, by have := of_decide_eq_true hb; omega⟩, fun hb => ⟨b1, ?_⟩⟩
    have := of_decide_eq_false hb
    obtain rfl : j = 4 := by omega
    exact b2
  · rintro e w2 ⟨rfl, b1, b2⟩
    refine ⟨rfl, b1, ?_⟩
    rcases b2 with ⟨a1, a2, a3⟩ | ⟨a1, a2⟩
    · exact ⟨a1, N, Or.inl rfl, by rw [← hN]; exact a2⟩
    · exact ⟨a1, 5, Or.inr rfl, a2⟩

set_option maxHeartbeats 1000000 in
theorem nested_any (a : Option Addr) (l cap : Nat) (xs : List UInt8) (size : Int) (N : Nat) (qs qd gd : Nat) (w : World) (h : InBytes w a l cap xs) (hat : WinAt w qs qd gd size xs) (hlt : qs < w.heap.size ∧ qd < w.heap.size ∧ gd < w.heap.size)
    (hw : -9223372036854775808 ≤ size ∧ size ≤ 9223372036854775807) (hN : winCount xs.length size = N) :
    Calls Try.prog 22 #[.func (.func 31) #[] #[.pointer (some ⟨qs, 0, none⟩), .pointer (some ⟨qd, 0, none⟩)], .slice a l cap, .int .i64 size, .int .i64 N] w
      fun e w' => e = .returned (.bool true) ∧ Keep [] w w' := by
  have hmf : ∀ (fn : Fn) (first cap : Array Value) (w : World), (Instr.makeFunc fn first cap).run Try.prog w = .ok (.func fn first cap) w := fun _ _ _ _ => rfl
  have c31 := call31
  have hkV : Keep [] w ((((((w.alloc (.cells #[.func (.func 31) #[] #[.pointer (some ⟨qs, 0, none⟩), .pointer (some ⟨qd, 0, none⟩)]] 39)).alloc (.cells #[.slice a l cap] 23)).alloc (.cells #[.int .i64 size] 3)).alloc (.cells #[.int .i64 N] 3)).alloc (.cells #[.bool true] 4)).alloc (.cells #[.int .i64 0] 3)) := by
    repeat (first | exact Keep.refl _ _ | refine Keep.alloc ?_ _)
  have hwin := nested_win a l cap xs size N qs qd gd w _ h hat hlt hw hN w.heap.size (w.heap.size + 1 + 1 + 1 + 1) (w.heap.size + 1 + 1 + 1 + 1 + 1) (w.heap.size + 1 + 1 + 1) (w.heap.size + 1) (w.heap.size + 1 + 1) hkV
    ((((((Blk.new _ _ _).alloc _).alloc _).alloc _).alloc _).alloc _) ((Blk.new' _ _ _ (by simp)).alloc _) (Blk.new' _ _ _ (by simp)) (((Blk.new' _ _ _ (by simp)).alloc _).alloc _) (((((Blk.new' _ _ _ (by simp)).alloc _).alloc _).alloc _).alloc _)
    ((((Blk.new' _ _ _ (by simp)).alloc _).alloc _).alloc _) (by omega) (by omega)
  have HW := Lib.hid hwin
  have HN0 : Hid (Blk ((((((w.alloc (.cells #[.func (.func 31) #[] #[.pointer (some ⟨qs, 0, none⟩), .pointer (some ⟨qd, 0, none⟩)]] 39)).alloc (.cells #[.slice a l cap] 23)).alloc (.cells #[.int .i64 size] 3)).alloc (.cells #[.int .i64 N] 3)).alloc (.cells #[.bool true] 4)).alloc (.cells #[.int .i64 0] 3)) (w.heap.size + 1 + 1 + 1) #[.int .i64 N] 3) := by
    show Blk _ _ _ _
    exact ((Blk.new' _ _ _ (by simp)).alloc _).alloc _
  clear hwin hat hN
  go_enter Try.func22, Try.ntmps22
  go_wp2_with fail
  refine HW.out.mono ?_
  rintro e w1 ⟨rfl, hk1, hb1, v, hv, hb2⟩
  have c1 := hb1.cell (i := 0) rfl
  have c2 := hb2.cell (i := 0) rfl
  have c3 := (HN0.out.keep hk1 (by simp)).cell (i := 0) rfl
  have hkW : Keep [] w w1 := hkV.trans hk1 (by simp; omega)
  clear HW hb1 hb2 hk1 hkV HN0
  have q4 : ((v : Int) == N) = true ∨ (((v : Int) == N) = false ∧ ((v : Int) == 5) = true) := by
    by_cases hvN : v = N
    · left; rw [beq_iff_eq]; omega
    · right; rw [beq_eq_false_iff_ne, beq_iff_eq]; omega
  clear hv
  rcases q4 with q4 | ⟨q4, q5⟩
  · go_wp2
    go_returns
    exact ⟨rfl, hkW⟩
  · go_wp2
    go_returns
    exact ⟨rfl, hkW⟩
end Go.Proofs.Ytcbinihjbmgkdaa
