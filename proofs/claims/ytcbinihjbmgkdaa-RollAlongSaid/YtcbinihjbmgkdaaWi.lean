/- The functions that RollWindows ranges with, and 'nested'. -/
import Derived.Test.YtcbinihjbmgkdaaAf
set_option linter.unusedVariables false
set_option linter.unusedSimpArgs false
namespace Go.Proofs.Ytcbinihjbmgkdaa
open Go.RowKit

/-- WINDOWS, GONE THROUGH, whether there are any or not. S: the caller's blocks that the function writes. -/
theorem windows_go (f : Nat) (caps : Array Value) (ps pd gd : Nat) (size : Int) (data : List UInt8) (w0 : World) (S : List Nat) (I : Nat → World → Prop) (J : World → Prop)
    (hcall : ∀ (args : Array Value) (w : World), (callFunc f args).run Try.prog w = .ok (.enter f args) w)
    (h : WinAt w0 ps pd gd size data) (hlt : ps < w0.heap.size ∧ pd < w0.heap.size ∧ gd < w0.heap.size) (hw : -9223372036854775808 ≤ size ∧ size ≤ 9223372036854775807)
    (hS : ps ∉ S ∧ pd ∉ S ∧ gd ∉ S) (hSl : ∀ b ∈ S, b < w0.heap.size) (h0 : I 0 w0)
    (hstab : ∀ k w w', I k w → Keep [] w w' ∨ (∃ sb, w0.heap.size ≤ sb ∧ Keep [sb] w w') → I k w')
    (hstep : ∀ k w, 1 ≤ size → k + size.toNat ≤ data.length → k < winCount data.length size → Keep S w0 w → I k w → Calls Try.prog f (#[.int .i64 k, .int .i64 (sumOf (window data size k))] ++ caps) w fun e w' =>
      ∃ b : Bool, e = .returned (.bool b) ∧ Keep S w w' ∧ (b = true → I (k + 1) w') ∧ (b = false → J w')) :
    Calls Try.prog 31 #[.func (.func f) #[] caps, .pointer (some ⟨ps, 0, none⟩), .pointer (some ⟨pd, 0, none⟩)] w0 fun e w' => e = .returned (.tuple #[]) ∧ Keep S w0 w' ∧ (I (winCount data.length size) w' ∨ J w') := by
  by_cases hin : 1 ≤ size ∧ size ≤ data.length
  · have hc : winCount data.length size = data.length - size.toNat + 1 := by unfold winCount; rw [if_pos hin]
    refine (windows_some f caps ps pd gd size data w0 (fun k sb w => w0.heap.size ≤ sb ∧ I k w ∧ Keep S w0 w) (fun w => Keep S w0 w ∧ (I (winCount data.length size) w ∨ J w)) hcall h hlt hin.1 hin.2 ?_ ?_ ?_).mono ?_
    · intro sb w hk h1 h2
      exact ⟨h1, hstab 0 w0 w h0 (Or.inl hk), hk.mono (by simp)⟩
    · intro k sb w w' ⟨h1, h2, h3⟩ hk
      exact ⟨h1, hstab k w w' h2 (Or.inr ⟨sb, h1, hk⟩), h3.trans hk (by simp; omega)⟩
    · intro k sb w hk h1 h2 ⟨_, h3, h4⟩
      refine (hstep k w hin.1 hk (by omega) h4 h3).mono ?_
      rintro e w' ⟨b, rfl, hk', hb1, hb2⟩
      have h5 : Keep S w0 w' := h4.trans hk' (fun b hb => Or.inl hb)
      refine ⟨b, rfl, ⟨S, hk', fun hx => ?_, hS.1, hS.2.1, hS.2.2⟩, ?_⟩
      · have := hSl sb hx; omega
      · cases b with
        | false => rw [if_neg (by simp)]; exact ⟨h5, Or.inr (hb2 rfl)⟩
        | true =>
          by_cases hl : k + 1 + size.toNat ≤ data.length
          · rw [if_pos ⟨rfl, hl⟩]; exact ⟨h1, hb1 rfl, h5⟩
          · rw [if_neg (by simp; omega)]
            have e : k + 1 = winCount data.length size := by omega
            exact ⟨h5, Or.inl (e ▸ hb1 rfl)⟩
    · rintro e w' ⟨rfl, h1, h2⟩; exact ⟨rfl, h1, h2⟩
  · have hc : winCount data.length size = 0 := by unfold winCount; rw [if_neg hin]
    refine (windows_none ps pd gd size data w0 h hc hw _).mono ?_
    rintro e w' ⟨rfl, m, rfl⟩
    have hk : Keep [] w0 (w0.drewN m) := (Keep.refl _ _).drewN
    exact ⟨rfl, hk.mono (by simp), Or.inl (hc ▸ hstab 0 w0 _ h0 (Or.inl hk))⟩

/-- A window of a row that is somewhere in a block. -/
theorem Rd.window {w : World} {a : Option Addr} {xs : List UInt8} {k n : Nat} (h : Rd w a (bs xs)) (h1 : 1 ≤ n) (hk : k + n ≤ xs.length) :
    ∃ b off, a = some ⟨b, off, none⟩ ∧ Rd w (some ⟨b, off + k, none⟩) (bs (window xs n k)) := by
  rcases h with h | ⟨b, off, rfl, hr⟩
  · have : xs.length = 0 := by rw [← bs_length, h]; rfl
    omega
  · refine ⟨b, off, rfl, Or.inr ⟨b, off + k, rfl, fun j v hj => ?_⟩⟩
    rw [Nat.add_assoc]
    refine hr (k + j) v ?_
    have hw : (bs (Go.Proofs.Ytcbinihjbmgkdaa.window xs n k)) = ((bs xs).drop k).take n := by simp [bs, Go.Proofs.Ytcbinihjbmgkdaa.window, List.map_take, List.map_drop]
    rw [hw] at hj
    obtain ⟨hj1, _⟩ := List.getElem?_eq_some_iff.1 hj
    have hj3 : j < n := by simp at hj1; omega
    rw [List.getElem?_take_of_lt hj3, List.getElem?_drop] at hj
    exact hj
theorem window_len {xs : List UInt8} {k n : Nat} (hk : k + n ≤ xs.length) : (window xs n k).length = n := by simp [window]; omega

set_option maxHeartbeats 1000000 in
theorem win1_any (b off l cap : Nat) (pg pn pd ps po : Nat) (n N k : Nat) (win : List UInt8) (w : World)
    (hg : Blk w pg #[.int .i64 k] 3) (hn : Blk w pn #[.int .i64 N] 3) (hd : Blk w pd #[.slice (some ⟨b, off, none⟩) l cap] 23) (hs : Blk w ps #[.int .i64 n] 3)
    (hr : Rd w (some ⟨b, off + k, none⟩) (bs win)) (hwl : win.length = n) (hle : l ≤ cap) (hcap : cap ≤ 9223372036854775807) (h1 : 1 ≤ n) (hk : k + n ≤ l) (hN : k < N) (hN2 : N ≤ 9223372036854775807) :
    Calls Try.prog 20 #[.int .i64 k, .int .i64 (sumOf win), .pointer (some ⟨pg, 0, none⟩), .pointer (some ⟨pn, 0, none⟩), .pointer (some ⟨pd, 0, none⟩), .pointer (some ⟨ps, 0, none⟩), .pointer (some ⟨po, 0, none⟩)] w
      fun e w' => e = .returned (.bool true) ∧ Blk w' pg #[.int .i64 ((k + 1 : Nat) : Int)] 3 ∧ Keep [pg] w w' := by
  have c0 := hg.cell (i := 0) rfl
  have f0 := hg.free (i := 0)
  have c1 := hn.cell (i := 0) rfl
  have c2 := hd.cell (i := 0) rfl
  have c3 := hs.cell (i := 0) rfl
  have HL := Lib.hid hwl
  have d1 : decide ((N : Int) ≤ k) = false := decide_eq_false (by omega)
  have d2 : decide (N ≤ k) = false := decide_eq_false (by omega)
  have z1 : (0 : Int) ≤ (k : Int) + n := by omega
  have z2 : (k : Int) + n ≤ cap := by omega
  have z3 : ¬ cap = k := by omega
  clear hwl
  go_enter Try.func20, Try.ntmps20
  go_wp2_with fail
  refine (refSum_n (some ⟨b, off + k, none⟩) n _ win w HL.out (by omega) hr).mono ?_
  rintro e w1 ⟨rfl, hk1⟩
  have hg1 := hg.keep hk1 (by simp)
  have c0' := hg1.cell (i := 0) rfl
  have f0' := hg1.free (i := 0)
  go_wp2
  go_returns
  refine ⟨rfl, ?_, ?_⟩
  · simp [Blk, heap_setCell_if, heap_drewN, hg1.hp, objSet_cells]
  · exact (hk1.mono (by simp)).set (by simp) _

/-- RollWindows$2: the stop-th window ends it. -/
theorem win2_any (pg pt po : Nat) (at_ sum stop : Int) (k : Nat) (w : World) (hg : Blk w pg #[.int .i64 k] 3) (ht : Blk w pt #[.int .i64 stop] 3) (ho : Blk w po #[.bool false] 4)
    (hne : pg ≠ po) (hk : k ≤ 100000000) (hst : stop < 0 ∨ (k : Int) ≤ stop) :
    Calls Try.prog 21 #[.int .i64 at_, .int .i64 sum, .pointer (some ⟨pg, 0, none⟩), .pointer (some ⟨pt, 0, none⟩), .pointer (some ⟨po, 0, none⟩)] w
      fun e w' => e = .returned (.bool (decide ((k : Int) ≠ stop))) ∧ Blk w' pg #[.int .i64 ((k + 1 : Nat) : Int)] 3 ∧ Blk w' po #[.bool false] 4 ∧ Keep [pg, po] w w' := by
  have c0 := hg.cell (i := 0) rfl
  have f0 := hg.free (i := 0)
  have c1 := ht.cell (i := 0) rfl
  have c2 := ho.cell (i := 0) rfl
  have f2 := ho.free (i := 0)
  by_cases he : (k : Int) = stop
  · have e0 : ((k : Int) == stop) = true := by rw [beq_iff_eq]; exact he
    have e1 : decide (stop < (k : Int)) = false := decide_eq_false (by omega)
    have e2 : decide ((k : Int) ≠ stop) = false := decide_eq_false (by omega)
    rw [e2]
    have HE := Lib.hid he
    clear he hst e2
    go_enter Try.func21, Try.ntmps21
    go_wp2
    go_returns
    refine ⟨rfl, ?_, ?_, ?_⟩
    · simp [Blk, heap_setCell_if, hg.hp, objSet_cells, hne]
    · simp [Blk, heap_setCell_if, ho.hp, objSet_cells, hne.symm]
    · repeat (first | exact Keep.refl _ _ | refine Keep.drewN ?_ | refine Keep.set ?_ (by simp) _)
  · have e0 : ((k : Int) == stop) = false := by rw [beq_eq_false_iff_ne]; exact he
    have e2 : decide ((k : Int) ≠ stop) = true := decide_eq_true he
    rw [e2]
    by_cases hneg : stop < 0
    · have e1 : decide (stop < (k : Int)) = true := decide_eq_true (by omega)
      have e3 : decide ((0 : Int) ≤ stop) = false := decide_eq_false (by omega)
      clear he hst e2
      go_enter Try.func21, Try.ntmps21
      go_wp2
      go_returns
      refine ⟨rfl, ?_, ?_, ?_⟩
      · simp [Blk, heap_setCell_if, hg.hp, objSet_cells, hne]
      · simp [Blk, heap_setCell_if, ho.hp, objSet_cells, hne.symm]
      · repeat (first | exact Keep.refl _ _ | refine Keep.drewN ?_ | refine Keep.set ?_ (by simp) _)
    · have e1 : decide (stop < (k : Int)) = false := decide_eq_false (by omega)
      clear he hst e2
      go_enter Try.func21, Try.ntmps21
      go_wp2
      go_returns
      refine ⟨rfl, ?_, ?_, ?_⟩
      · simp [Blk, heap_setCell_if, hg.hp, objSet_cells, hne]
      · simp [Blk, heap_setCell_if, ho.hp, objSet_cells, hne.symm]
      · repeat (first | exact Keep.refl _ _ | refine Keep.drewN ?_ | refine Keep.set ?_ (by simp) _)

/-- nested$1$1 -/
theorem inner_any (po pi : Nat) (sum : Int) (k : Nat) (w : World) (ho : Blk w po #[.bool true] 4) (hi : Blk w pi #[.int .i64 k] 3) (hne : po ≠ pi) (hk : k ≤ 3) :
    Calls Try.prog 33 #[.int .i64 k, .int .i64 sum, .pointer (some ⟨po, 0, none⟩), .pointer (some ⟨pi, 0, none⟩)] w
      fun e w' => e = .returned (.bool (decide (k + 1 < 4))) ∧ Blk w' po #[.bool true] 4 ∧ Blk w' pi #[.int .i64 ((k + 1 : Nat) : Int)] 3 ∧ Keep [po, pi] w w' := by
  have c0 := ho.cell (i := 0) rfl
  have f0 := ho.free (i := 0)
  have c1 := hi.cell (i := 0) rfl
  have f1 := hi.free (i := 0)
  have e0 : decide ((k : Int) + 1 < 4) = decide (k + 1 < 4) := by apply decide_eq_decide.2; omega
  generalize decide (k + 1 < 4) = bb at *
  go_enter Try.func33, Try.ntmps33
  go_wp2
  go_returns
  refine ⟨rfl, ?_, ?_, ?_⟩
  · simp [Blk, heap_setCell_if, ho.hp, objSet_cells, hne]
  · simp [Blk, heap_setCell_if, hi.hp, objSet_cells, hne.symm]
  · repeat (first | exact Keep.refl _ _ | refine Keep.drewN ?_ | refine Keep.set ?_ (by simp) _)

theorem call20 (args : Array Value) (w : World) : (callFunc 20 args).run Try.prog w = .ok (.enter 20 args) w := rfl
theorem call21 (args : Array Value) (w : World) : (callFunc 21 args).run Try.prog w = .ok (.enter 21 args) w := rfl
theorem call31 (args : Array Value) (w : World) : (callFunc 31 args).run Try.prog w = .ok (.enter 31 args) w := rfl
theorem call32 (args : Array Value) (w : World) : (callFunc 32 args).run Try.prog w = .ok (.enter 32 args) w := rfl
theorem call33 (args : Array Value) (w : World) : (callFunc 33 args).run Try.prog w = .ok (.enter 33 args) w := rfl

set_option maxHeartbeats 1000000 in
/-- nested$1 -/
theorem outer_any (b off l cap : Nat) (pt po pu pn pd ps : Nat) (qs qd gd : Nat) (data : List UInt8) (n N k : Nat) (win : List UInt8) (w : World)
    (hit : Blk w pt #[.func (.func 31) #[] #[.pointer (some ⟨qs, 0, none⟩), .pointer (some ⟨qd, 0, none⟩)]] 39) (hat : WinAt w qs qd gd n data) (hlt : qs < w.heap.size ∧ qd < w.heap.size ∧ gd < w.heap.size)
    (ho : Blk w po #[.bool true] 4) (hu : Blk w pu #[.int .i64 k] 3) (hn : Blk w pn #[.int .i64 N] 3) (hd : Blk w pd #[.slice (some ⟨b, off, none⟩) l cap] 23) (hs : Blk w ps #[.int .i64 n] 3)
    (hne : po ≠ pu ∧ po ≠ pn ∧ po ≠ pt ∧ po ≠ pd ∧ po ≠ ps) (hq : po ≠ qs ∧ po ≠ qd ∧ po ≠ gd) (hN : winCount data.length n = N)
    (hr : Rd w (some ⟨b, off + k, none⟩) (bs win)) (hbo : b ≠ po) (hwl : win.length = n) (hle : l ≤ cap) (hcap : cap ≤ 9223372036854775807) (h1 : 1 ≤ n) (hk : k + n ≤ l) (hkN : k < N) (hN2 : N ≤ 9223372036854775807) (hk4 : k ≤ 4) :
    Calls Try.prog 32 #[.int .i64 k, .int .i64 (sumOf win), .pointer (some ⟨pt, 0, none⟩), .pointer (some ⟨po, 0, none⟩), .pointer (some ⟨pu, 0, none⟩), .pointer (some ⟨pn, 0, none⟩), .pointer (some ⟨pd, 0, none⟩), .pointer (some ⟨ps, 0, none⟩)] w
      fun e w' => e = .returned (.bool (decide (k + 1 < 5))) ∧ Blk w' po #[.bool true] 4 ∧ Blk w' pu #[.int .i64 ((k + 1 : Nat) : Int)] 3 ∧ Keep [po, pu] w w' := by
  have hmf : ∀ (fn : Fn) (first cap : Array Value) (w : World), (Instr.makeFunc fn first cap).run Try.prog w = .ok (.func fn first cap) w := fun _ _ _ _ => rfl
  have c31 := call31
  have HL := Lib.hid hwl
  have z1 : (0 : Int) ≤ (k : Int) + n := by omega
  have z2 : (k : Int) + n ≤ cap := by omega
  have z3 : ¬ cap = k := by omega
  have e0 : decide ((k : Int) + 1 < 5) = decide (k + 1 < 5) := by apply decide_eq_decide.2; omega
  generalize decide (k + 1 < 5) = bb at *
  have hol := ho.lt
  have d1 : decide ((k : Int) < N) = true := decide_eq_true (by omega)
  have d2 : decide (k < N) = true := decide_eq_true hkN
  have hk0 : Keep [] w (w.alloc (.cells #[.int .i64 0] 3)) := (Keep.refl _ _).alloc _
  have hwin := windows_go 33 #[.pointer (some ⟨po, 0, none⟩), .pointer (some ⟨w.heap.size, 0, none⟩)] qs qd gd n data (w.alloc (.cells #[.int .i64 0] 3)) [po, w.heap.size]
    (fun j w' => Blk w' po #[.bool true] 4 ∧ Blk w' w.heap.size #[.int .i64 (j : Nat)] 3 ∧ j ≤ 3) (fun w' => Blk w' po #[.bool true] 4 ∧ Blk w' w.heap.size #[.int .i64 4] 3)
    call33 (hat.keep hk0 (by simp) (by simp) (by simp)) (by simp; omega) (by omega) (by simp; omega) (by simp; omega) ⟨ho.alloc _, Blk.new _ _ _, by omega⟩
    (by
      rintro j w1 w2 ⟨a1, a2, a3⟩ hkk
      rcases hkk with hkk | ⟨sb, hsb, hkk⟩
      · exact ⟨a1.keep hkk (by simp), a2.keep hkk (by simp), a3⟩
      · simp at hsb
        exact ⟨a1.keep hkk (by simp; omega), a2.keep hkk (by simp; omega), a3⟩)
    (by
      rintro j w1 hs1 hs2 hs3 hkk ⟨a1, a2, a3⟩
      refine (inner_any po w.heap.size _ j w1 a1 a2 (by omega) a3).mono ?_
      rintro e w2 ⟨rfl, b1, b2, b3⟩
      refine ⟨_, rfl, b3, fun hb => ⟨b1, b2, by have := of_decide_eq_true hb; omega⟩, fun hb => ⟨b1, ?_⟩⟩
      have := of_decide_eq_false hb
      obtain rfl : j = 3 := by omega
      exact b2)
  rw [hN] at hwin
  have HW := Lib.hid hwin
  clear hwin hwl hN hat
  go_enter Try.func32, Try.ntmps32
  have ct := hit.alloc (.cells #[.int .i64 0] 3) |>.cell (i := 0) rfl
  go_wp2_with fail
  refine HW.out.mono ?_
  rintro e w1 ⟨rfl, hk1, hcase⟩
  have hkk : Keep [po] w w1 := (hk0.mono (by simp)).trans hk1 (by simp <;> omega)
  have cu0 := hu.keep hkk (by simp; omega)
  have cu := cu0.cell (i := 0) rfl
  have fu := cu0.free (i := 0)
  have cn := (hn.keep hkk (by simp; omega)).cell (i := 0) rfl
  have cd := (hd.keep hkk (by simp; omega)).cell (i := 0) rfl
  have cs := (hs.keep hkk (by simp; omega)).cell (i := 0) rfl
  have hr1 := hr.keep hkk (fun _ => by simpa [ablk] using hbo)
  obtain ⟨v, hv, hbo1, hbi⟩ : ∃ v : Nat, (v = N ∨ v = 4) ∧ Blk w1 po #[.bool true] 4 ∧ Blk w1 w.heap.size #[.int .i64 v] 3 := by
    rcases hcase with ⟨a1, a2, a3⟩ | ⟨a1, a2⟩
    · exact ⟨N, Or.inl rfl, a1, a2⟩
    · exact ⟨4, Or.inr rfl, a1, a2⟩
  have co := hbo1.cell (i := 0) rfl
  have ci := hbi.cell (i := 0) rfl
  have hpu : pu ≠ po := by omega
  have tail : ∀ w2, Keep [] w1 w2 → Blk ((w2.setCell ⟨po, 0, none⟩ (.bool true)).setCell ⟨pu, 0, none⟩ (.int .i64 ((k : Int) + 1))) po #[.bool true] 4 ∧ Blk ((w2.setCell ⟨po, 0, none⟩ (.bool true)).setCell ⟨pu, 0, none⟩ (.int .i64 ((k : Int) + 1))) pu #[.int .i64 ((k + 1 : Nat) : Int)] 3 ∧
      Keep [po, pu] w ((w2.setCell ⟨po, 0, none⟩ (.bool true)).setCell ⟨pu, 0, none⟩ (.int .i64 ((k : Int) + 1))) := by
    intro w2 hk2
    have a1 := hbo1.keep hk2 (by simp)
    have a2 := cu0.keep hk2 (by simp)
    refine ⟨?_, ?_, ?_⟩
    · simp [Blk, heap_setCell_if, a1.hp, objSet_cells, hne.1]
    · simp [Blk, heap_setCell_if, a2.hp, objSet_cells, hpu]
    · exact (((hkk.trans' hk2).mono (T := [po, pu]) (by simp)).set (by simp) _).set (by simp) _
  have HT := Lib.hid tail
  clear tail
  have q4 : ((v : Int) == N) = true ∨ (((v : Int) == N) = false ∧ ((v : Int) == 4) = true) := by
    by_cases hvN : v = N
    · left; rw [beq_iff_eq]; omega
    · right; rw [beq_eq_false_iff_ne, beq_iff_eq]; omega
  clear hv hcase
  rcases q4 with q4 | ⟨q4, q5⟩
  · go_wp2_with fail
    refine (refSum_n (some ⟨b, off + k, none⟩) n _ win w1 HL.out (by omega) hr1).mono ?_
    rintro e w2 ⟨rfl, hk2⟩
    have co2 := (hbo1.keep hk2 (by simp)).cell (i := 0) rfl
    have fo2 := (hbo1.keep hk2 (by simp)).free (i := 0)
    have cu2 := (cu0.keep hk2 (by simp)).cell (i := 0) rfl
    have fu2 := (cu0.keep hk2 (by simp)).free (i := 0)
    go_wp2
    go_returns
    exact ⟨rfl, HT.out w2 hk2⟩
  · go_wp2_with fail
    refine (refSum_n (some ⟨b, off + k, none⟩) n _ win w1 HL.out (by omega) hr1).mono ?_
    rintro e w2 ⟨rfl, hk2⟩
    have co2 := (hbo1.keep hk2 (by simp)).cell (i := 0) rfl
    have fo2 := (hbo1.keep hk2 (by simp)).free (i := 0)
    have cu2 := (cu0.keep hk2 (by simp)).cell (i := 0) rfl
    have fu2 := (cu0.keep hk2 (by simp)).free (i := 0)
    go_wp2
    go_returns
    exact ⟨rfl, HT.out w2 hk2⟩
end Go.Proofs.Ytcbinihjbmgkdaa
