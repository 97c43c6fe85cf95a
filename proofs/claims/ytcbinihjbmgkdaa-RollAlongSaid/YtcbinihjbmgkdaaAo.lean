/- The law RollAlong: its walk. -/
import Derived.Test.YtcbinihjbmgkdaaAn
set_option linter.unusedVariables false
set_option linter.unusedSimpArgs false
namespace Go.Proofs.Ytcbinihjbmgkdaa
open Go.RowKit

theorem InBytes.take {w : World} {a : Option Addr} {l cap : Nat} {xs : List UInt8} (h : InBytes w a l cap xs) {n : Nat} (hn : n ≤ l) : InBytes w a n cap (xs.take n) := by
  refine ⟨by rw [List.length_take, h.hlen]; omega, ?_, by have := h.hle; omega, h.hnil, h.reach⟩
  rcases h.rd with e | ⟨b, off, e, hr⟩
  · left
    have : xs = [] := by simpa [bs] using e
    rw [this]; simp [bs]
  · refine Or.inr ⟨b, off, e, fun k v hk => hr k v ?_⟩
    have hb : bs (xs.take n) = (bs xs).take n := by simp [bs, List.map_take]
    rw [hb] at hk
    obtain ⟨hk1, _⟩ := List.getElem?_eq_some_iff.1 hk
    have hk2 : k < n := by simp at hk1; omega
    rwa [List.getElem?_take_of_lt hk2] at hk

theorem window_get (xs : List UInt8) (n k j : Nat) : (window xs n k)[j]? = if j < n then xs[k + j]? else none := by
  simp only [window, Int.toNat_natCast]
  split
  · next h => rw [List.getElem?_take_of_lt h, List.getElem?_drop]
  · next h => exact List.getElem?_eq_none (by simp; omega)
theorem window_eq {xs : List UInt8} {n i : Nat} (h : ∀ j, j < n → xs[j]? = xs[i + j]?) : window xs n i = window xs n 0 := by
  apply List.ext_getElem?
  intro j
  rw [window_get, window_get]
  split
  · next hj => rw [Nat.zero_add]; exact (h j hj).symm
  · rfl
theorem sums_cells {w : World} {a : Option Addr} {xs : List UInt8} {n M i : Nat} (h : Rd w a (sumL xs n M)) (hi : i < M) :
    ∃ b off, a = some ⟨b, off, none⟩ ∧ w.cell? ⟨b, off + i, none⟩ = some (.int .i64 (sumOf (window xs n i))) ∧ w.cell? ⟨b, off, none⟩ = some (.int .i64 (sumOf (window xs n 0))) := by
  obtain ⟨b, off, e, h1⟩ := h.at (k := i) (by simp [sumL]; exact hi)
  obtain ⟨b', off', e', h2⟩ := h.at (k := 0) (by simp [sumL]; omega)
  rw [e] at e'
  simp only [Option.some.injEq, Addr.mk.injEq, and_true] at e'
  obtain ⟨rfl, rfl⟩ := e'
  exact ⟨b, off, e, by simpa [sumL] using h1, by simpa [sumL] using h2⟩

theorem i64_bounds {n : Int} (h : (Lit.int .i64 n).wf = true) : -9223372036854775808 ≤ n ∧ n ≤ 9223372036854775807 := by
  have h2 := h
  simp [Lit.wf, IntKind.min, IntKind.max, IntKind.signed, IntKind.bits] at h2
  exact h2

set_option maxHeartbeats 4000000 in
set_option maxRecDepth 100000 in
theorem rollAlong_walk (a : Option Addr) (l cap : Nat) (xs : List UInt8) (size : Int) (W : World) (h : InBytes W a l cap xs) (hs0 : (Lit.int .i64 size).wf = true) :
    Calls Try.prog 9 #[.slice a l cap, .int .i64 size] W fun e w' => e = .returned (.bool true) ∧ Keep [] W w' := by
  have hle := h.hle
  have hreach := h.reach
  have HL := Lib.hid h.hlen
  have hsw := i64_bounds hs0
  clear hs0
  by_cases hb1 : 20000 < l
  · have d1 : decide ((20000 : Int) < l) = true := decide_eq_true (by omega)
    go_enter Try.func9, Try.ntmps9
    go_wp2
    go_returns
    exact ⟨rfl, by repeat (first | exact Keep.refl _ _ | refine Keep.alloc ?_ _)⟩
  have d1 : decide ((20000 : Int) < l) = false := decide_eq_false (by omega)
  by_cases hb2 : size < 1
  · have d2 : decide (size < 1) = true := decide_eq_true (by omega)
    go_enter Try.func9, Try.ntmps9
    go_wp2
    go_returns
    exact ⟨rfl, by repeat (first | exact Keep.refl _ _ | refine Keep.alloc ?_ _)⟩
  obtain ⟨n, rfl⟩ : ∃ n : Nat, size = n := ⟨size.toNat, by omega⟩
  have d2 : decide ((n : Int) < 1) = false := decide_eq_false (by omega)
  by_cases hb3 : l < n
  · have d3 : decide ((l : Int) < n) = true := decide_eq_true (by omega)
    have d3' : decide (l < n) = true := decide_eq_true hb3
    go_enter Try.func9, Try.ntmps9
    go_wp2
    go_returns
    exact ⟨rfl, by repeat (first | exact Keep.refl _ _ | refine Keep.alloc ?_ _)⟩
  have d3 : decide ((l : Int) < n) = false := decide_eq_false (by omega)
  have d3' : decide (l < n) = false := decide_eq_false hb3
  by_cases hb4 : 4096 < n
  · have d4 : decide ((4096 : Int) < n) = true := decide_eq_true (by omega)
    go_enter Try.func9, Try.ntmps9
    go_wp2
    go_returns
    exact ⟨rfl, by repeat (first | exact Keep.refl _ _ | refine Keep.alloc ?_ _)⟩
  have d4 : decide ((4096 : Int) < n) = false := decide_eq_false (by omega)
  have hmf : ∀ (fn : Fn) (first cap : Array Value) (w : World), (Instr.makeFunc fn first cap).run Try.prog w = .ok (.func fn first cap) w := fun _ _ _ _ => rfl
  have hfe := eql_func
  have c31 := call31
  obtain ⟨b, off, rfl, -⟩ := h.rd.window (k := 0) (n := n) (by omega) (by rw [h.hlen]; omega)
  have hk2 : Keep [] W ((W.alloc (.cells #[.slice (some ⟨b, off, none⟩) l cap] 23)).alloc (.cells #[.int .i64 n] 3)) := ((Keep.refl _ _).alloc _).alloc _
  have z1 : (n : Int) ≤ cap := by omega
  have hb0 : Hid (Blk ((W.alloc (.cells #[.slice (some ⟨b, off, none⟩) l cap] 23)).alloc (.cells #[.int .i64 n] 3)) W.heap.size #[.slice (some ⟨b, off, none⟩) l cap] 23) := by
    show Blk _ _ _ _
    exact (Blk.new _ _ _).alloc _
  have hb1' : Hid (Blk ((W.alloc (.cells #[.slice (some ⟨b, off, none⟩) l cap] 23)).alloc (.cells #[.int .i64 n] 3)) (W.heap.size + 1) #[.int .i64 n] 3) := by
    show Blk _ _ _ _
    exact Blk.new' _ _ _ (by simp)
  go_enter Try.func9, Try.ntmps9
  go_wp2_with fail
  refine (begun_any (some ⟨b, off, none⟩) n cap (xs.take n) _ ((h.keep hk2 (by simp)).take (by omega))).mono ?_
  rintro e w1 ⟨hk1, hcase⟩
  rcases hcase with ⟨_, _, r, g, rfl, hroll, hr, hg⟩ | ⟨hbad, -⟩
  · have hkW1 := hk2.trans' hk1
    have b0 := hb0.out.keep hk1 (by simp)
    have b1 := hb1'.out.keep hk1 (by simp)
    have c0 := (b0.alloc (.cells #[.pointer (some ⟨r, 0, none⟩)] 32)).alloc (.cells #[.bool true] 4) |>.cell (i := 0) rfl
    have c1 := (b1.alloc (.cells #[.pointer (some ⟨r, 0, none⟩)] 32)).alloc (.cells #[.bool true] 4) |>.cell (i := 0) rfl
    have hi1 := (h.keep hkW1 (by simp))
    have hi2 := hi1.keep (((Keep.refl [] w1).alloc (.cells #[.pointer (some ⟨r, 0, none⟩)] 32)).alloc (.cells #[.bool true] 4)) (by simp)
    simp only [World.size_alloc] at hr hg
    clear hb0 hb1'
    go_wp2_with fail
    refine (windowsMake_any (some ⟨b, off, none⟩) l cap n xs _ HL.out (by omega) hi2.rd (by simp)).mono ?_
    rintro e w2 ⟨qs, qd, gd, rfl, hat, q1, q2, q3, hlt2, hk3⟩
    simp only [World.size_alloc] at q1 q2 q3
    have kx : Keep [] w1 ((w1.alloc (.cells #[.pointer (some ⟨r, 0, none⟩)] 32)).alloc (.cells #[.bool true] 4)) := ((Keep.refl _ _).alloc _).alloc _
    have hk12 : Keep [] w1 w2 := kx.trans' hk3
    have hbr : Blk w2 w1.heap.size #[.pointer (some ⟨r, 0, none⟩)] 32 := ((Blk.new _ _ _).alloc _).keep hk3 (by simp)
    have hbo : Blk w2 (w1.heap.size + 1) #[.bool true] 4 := (Blk.new' _ _ _ (by simp)).keep hk3 (by simp)
    have b0' := b0.keep hk12 (by simp)
    have b1' := b1.keep hk12 (by simp)
    have hroll2 := hroll.keep hk12 (by simp) (by simp)
    have hs1 := hkW1.size
    have hlr := hroll.lts
    have hs2 := hk12.size
    have hs2' := hk3.size
    simp only [World.size_alloc] at hs2'
    have b0lt := b0.lt
    have b1lt := b1.lt
    have hw0 : window xs n 0 = xs.take n := by simp [window]
    have kV : Keep [] w2 (w2.alloc (.cells #[.slice none 0 0] 50)) := (Keep.refl _ _).alloc _
    have HG := Lib.hid (along_go (some ⟨b, off, none⟩) l cap xs n qs qd gd W (w2.alloc (.cells #[.slice none 0 0] 50)) h ((hkW1.trans' hk12).alloc _) (hat.keep kV (by simp) (by simp) (by simp)) (by simp; omega)
      (w1.heap.size + 1) w2.heap.size w1.heap.size (W.heap.size + 1) W.heap.size r g (hbo.alloc _) (Blk.new _ _ _) (hbr.alloc _) (by rw [hw0]; exact hroll2.keep kV (by simp) (by simp)) (b1'.alloc _) (b0'.alloc _)
      (by omega) (by simp; omega) (by simp; omega) (by omega) (by omega) (by omega) (by omega))
    have c0' := (b0'.alloc (.cells #[.slice none 0 0] 50)).cell (i := 0) rfl
    have c2 := hbr.cell (i := 0) rfl
    have c3 := hbo.cell (i := 0) rfl
    have HB0 := Lib.hid b0'
    have HB1 := Lib.hid b1'
    have HKV : Hid (Keep [] W (w2.alloc (.cells #[.slice none 0 0] 50))) := by
      show Keep _ _ _
      exact (hkW1.trans' hk12).alloc _
    clear hw0 hroll2 hroll hat b0 b1 b0' b1' hbr hbo hk12 kx hk3 hi1 hi2 c0 c1 hk1 hkW1 hk2
    go_wp2_with fail
    refine HG.out.mono ?_
    rintro e w3 ⟨rfl, v, hA⟩
    have hb0 := (HB0.out.alloc (.cells #[.slice none 0 0] 50)).keep hA.keep (by simp; omega)
    have hb1'' := (HB1.out.alloc (.cells #[.slice none 0 0] 50)).keep hA.keep (by simp; omega)
    have hkW3 : Keep [] W w3 := HKV.out.trans hA.keep (by simp; omega)
    have hsl := hA.sl
    obtain ⟨av, cv, rfl, -, hrdv, hlv, hmv, -⟩ := hsl.form
    obtain ⟨M, hM⟩ : ∃ M : Nat, l - n + 1 = M := ⟨_, rfl⟩
    rw [hM] at hA hsl hrdv hlv
    have c4 := hA.ok.cell (i := 0) rfl
    have c5 := hA.sums.cell (i := 0) rfl
    have c6 := hb0.cell (i := 0) rfl
    have c7 := hb1''.cell (i := 0) rfl
    have t1 : ((M : Int) == (l : Int) - n + 1) = true := by rw [beq_iff_eq]; omega
    have t2 : ((M : Int) != (l : Int) - n + 1) = false := by rw [bne, t1]; rfl
    have hMl : M ≤ 20000 := by omega
    have hMn : M + n = l + 1 := by omega
    have hM1 : 1 ≤ M := by omega
    have HRV := Lib.hid hrdv
    have HKW := Lib.hid hkW3
    clear hM hA hsl hrdv hkW3 hb0 hb1'' HB0 HB1 HKV HG c0' c2 c3
    go_wp2
    go_loopw [9] (fun i wr => ∃ i0 : Nat, 1 ≤ i0 ∧ i0 ≤ M ∧ i = .int .i64 i0 ∧ Keep [] w3 wr) (fun i _ => M - (intOf i).toNat)
    case atStart => exact ⟨1, by omega, hM1, rfl, Keep.refl _ _⟩
    case round =>
      obtain ⟨i, hi1, hiM, rfl, hkr⟩ := hrel
      have e4 := hkr.cell c4 (by simp)
      have e5 := hkr.cell c5 (by simp)
      have e6 := hkr.cell c6 (by simp)
      have e7 := hkr.cell c7 (by simp)
      have hprod : i * n ≤ 81920000 := Nat.le_trans (Nat.mul_le_mul (show i ≤ 20000 by omega) (show n ≤ 4096 by omega)) (by decide)
      obtain ⟨pr, hpr⟩ : ∃ pr : Nat, i * n = pr := ⟨_, rfl⟩
      rw [hpr] at hprod
      have p1 : IntKind.i64.wrap ((i : Int) * n) = (pr : Int) := by rw [← Int.natCast_mul, hpr]; exact IntWalk.i64_in _ (by omega)
      have p2 : wrap64 ((i : Int) * n) = (pr : Int) := by rw [← Int.natCast_mul, hpr]; exact IntWalk.wrap64_in _ (by omega)
      clear hpr
      by_cases hgo : i < M ∧ pr < 300000
      · obtain ⟨g1, g2⟩ := hgo
        have t3 : decide ((i : Int) < M) = true := decide_eq_true (by omega)
        have t3' : decide (i < M) = true := decide_eq_true g1
        have t4 : decide ((pr : Int) < 300000) = true := by clear hprod p1 p2; exact decide_eq_true (by omega)
        have t4' : decide (pr < 300000) = true := decide_eq_true g2
        go_wp2
        go_loopw [10, 11] (fun al kk wx => ∃ (k : Nat) (bb : Bool), k ≤ n ∧ al = .bool bb ∧ kk = .int .i64 k ∧ Keep [] wr wx ∧ (bb = true → ∀ j, j < k → xs[j]? = xs[i + j]?)) (fun _ kk _ => n - (intOf kk).toNat)
        case atStart => exact ⟨0, true, Nat.zero_le _, rfl, rfl, Keep.refl _ _, fun _ j hj => absurd hj (Nat.not_lt_zero j)⟩
        case round =>
          obtain ⟨k, bb, hkn, rfl, rfl, hkx, hall⟩ := hrel
          have hkW := (HKW.out.trans' hkr).trans' hkx
          have f4 := hkx.cell e4 (by simp)
          have f5 := hkx.cell e5 (by simp)
          have f6 := hkx.cell e6 (by simp)
          have f7 := hkx.cell e7 (by simp)
          have hil : i + n ≤ l := by clear hprod p1 p2; omega
          clear hprod p1 p2 t4 g2 t4'
          by_cases hlt : k < n
          · have s1 : decide ((k : Int) < n) = true := decide_eq_true (by omega)
            have s1' : decide (k < n) = true := decide_eq_true hlt
            cases bb with
            | true =>
              obtain ⟨x, hx⟩ := get_some (xs := xs) (k := k) (by rw [HL.out]; omega)
              obtain ⟨y, hy⟩ := get_some (xs := xs) (k := i + k) (by rw [HL.out]; omega)
              obtain ⟨b1, o1, ee1, _, hcx⟩ := h.rd.byte? hx
              obtain ⟨b2, o2, ee2, _, hcy⟩ := h.rd.byte? hy
              simp only [Option.some.injEq, Addr.mk.injEq, and_true] at ee1 ee2
              obtain ⟨rfl, rfl⟩ := ee1
              obtain ⟨rfl, rfl⟩ := ee2
              have hcx' := hkW.cell hcx (by simp)
              have hcy' := hkW.cell hcy (by simp)
              have z2 : (k : Int) < l := by omega
              have z3 : (i : Int) + k < l := by omega
              have z4 : (0 : Int) ≤ (i : Int) + k := by omega
              have z5 : ((i : Int) + k).toNat = i + k := by omega
              have z6 : k < l := by omega
              have q1 : IntKind.i64.wrap ((i : Int) + k) = (i : Int) + k := IntWalk.i64_in _ (by omega)
              have HA := Lib.hid hall
              have HX := Lib.hid (And.intro hx hy)
              clear hall hx hy hcx hcy
              by_cases hxy : x = y
              · subst hxy
                go_wp2_with fail
                go_quiet (fail)
                go_wp2
                exact ⟨⟨k + 1, true, by omega, rfl, by go_num, hkx.drewN, fun _ j hj => by
                  by_cases hjk : j = k
                  · subst hjk; rw [HX.out.1, HX.out.2]
                  · exact HA.out (by trivial) j (by omega)⟩, by simp [intOf]; omega⟩
              · have hxn : ((x.toNat : Int) == y.toNat) = false := by
                  rw [beq_eq_false_iff_ne]; intro e; exact hxy (UInt8.toNat_inj.1 (by omega))
                have HXY := Lib.hid hxy
                clear hxy
                go_wp2_with fail
                go_quiet (fail)
                go_wp2
                exact ⟨⟨k + 1, false, by omega, rfl, by go_num, hkx.drewN, fun hb => by cases hb⟩, by simp [intOf]; omega⟩
            | false =>
              clear hall
              go_wp2_with fail
              go_quiet (fail)
              go_wp2
              exact ⟨⟨i + 1, by omega, by omega, by go_num, (hkr.trans' hkx).drewN⟩, by simp [intOf]; omega⟩
          · have s1 : decide ((k : Int) < n) = false := decide_eq_false (by omega)
            have s1' : decide (k < n) = false := decide_eq_false hlt
            cases bb with
            | true =>
              have hwe : window xs n i = window xs n 0 := window_eq (fun j hj => hall (by trivial) j (by omega))
              obtain ⟨sb, so, rfl, u1, u2⟩ := sums_cells HRV.out (show i < M by omega)
              rw [hwe] at u1
              generalize sumOf (window xs n 0) = sm at u1 u2
              have v1 := hkx.cell (hkr.cell u1 (by simp)) (by simp)
              have v2 := hkx.cell (hkr.cell u2 (by simp)) (by simp)
              have z1 : (i : Int) < M := by omega
              have z2 : i < M := by omega
              have z3 : 0 < M := by omega
              have z4 : (0 : Int) < M := by omega
              clear hall hwe u1 u2
              go_wp2_with fail
              go_quiet (fail)
              go_wp2
              exact ⟨⟨i + 1, by omega, by omega, by go_num, (hkr.trans' hkx).drewN⟩, by simp [intOf]; omega⟩
            | false =>
              clear hall
              go_wp2_with fail
              go_quiet (fail)
              go_wp2
              exact ⟨⟨i + 1, by omega, by omega, by go_num, (hkr.trans' hkx).drewN⟩, by simp [intOf]; omega⟩
      · by_cases g1 : i < M
        · have t3 : decide ((i : Int) < M) = true := decide_eq_true (by omega)
          have t3' : decide (i < M) = true := decide_eq_true g1
          have g2 : ¬ pr < 300000 := fun hx => hgo ⟨g1, hx⟩
          have t4 : decide ((pr : Int) < 300000) = false := by clear hprod p1 p2; exact decide_eq_false (by omega)
          have t4' : decide (pr < 300000) = false := decide_eq_false g2
          clear hgo
          go_wp2_with fail
          refine (known_any _).mono ?_
          rintro e w8 ⟨rfl, hk8⟩
          go_wp2
          go_returns
          exact ⟨rfl, (HKW.out.trans' hkr).trans' hk8⟩
        · have t3 : decide ((i : Int) < M) = false := decide_eq_false (by omega)
          have t3' : decide (i < M) = false := decide_eq_false g1
          clear hgo
          go_wp2_with fail
          refine (known_any _).mono ?_
          rintro e w8 ⟨rfl, hk8⟩
          go_wp2
          go_returns
          exact ⟨rfl, (HKW.out.trans' hkr).trans' hk8⟩
  · exact absurd hbad (by omega)
end Go.Proofs.Ytcbinihjbmgkdaa
