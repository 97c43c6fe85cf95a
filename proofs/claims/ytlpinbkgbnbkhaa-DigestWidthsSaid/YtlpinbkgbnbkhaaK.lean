/- DigestWidths: the walk. -/
import Derived.Test.YtlpinbkgbnbkhaaJ
set_option linter.unusedVariables false
set_option linter.unusedSimpArgs false
namespace Go.Proofs.Ytlpinbkgbnbkhaa
open Go.RowKit

theorem round_any (n : Int) (w : World) (hn : (Lit.int .i64 n).wf = true) :
    Calls Try.prog 27 #[.int .i64 n] w fun e w' => ∃ r : Nat, r < 32 ∧ e = .returned (.int .i64 r) ∧ w' = w := by
  obtain ⟨t, ht⟩ : ∃ t, n.tmod 32 = t := ⟨_, rfl⟩
  have t1 : -32 < t := by rw [← ht]; exact Int.lt_tmod_of_pos n (by decide)
  have t2 : t < 32 := by rw [← ht]; exact Int.tmod_lt_of_pos n (by decide)
  go_enter Try.func27, Try.ntmps27
  by_cases h : t < 0
  · have w1 : IntKind.i64.wrap (t + 32) = t + 32 := IntWalk.i64_in _ (by omega)
    have w2 : IntKind.i64.wrap t = t := IntWalk.i64_in _ (by omega)
    go_wp2_with fail
    go_returns
    exact ⟨(t + 32).toNat, by omega, by show Ending.returned (Value.int .i64 (t + 32)) = _; rw [Int.toNat_of_nonneg (by omega)], rfl⟩
  · have w2 : IntKind.i64.wrap t = t := IntWalk.i64_in _ (by omega)
    go_wp2_with fail
    go_returns
    exact ⟨t.toNat, by omega, by show Ending.returned (Value.int .i64 t) = _; rw [Int.toNat_of_nonneg (by omega)], rfl⟩

theorem upTo_get {l : List UInt8} {k i : Nat} (hk : k ≤ l.length) (hi : i < l.length) : (upTo l k)[i]? = if i < k then l[i]? else some 0 := by
  rw [upTo]
  by_cases h : i < k
  · rw [if_pos h, List.getElem?_append_left (by rw [List.length_take]; omega), List.getElem?_take, if_pos h]
  · rw [if_neg h, List.getElem?_append_right (by rw [List.length_take]; omega)]
    simp only [List.getElem?_replicate, List.length_take]
    rw [if_pos (by omega)]

set_option maxHeartbeats 8000000 in
set_option maxRecDepth 100000 in
theorem digestWidths_walk (m v : Int) (a : Option Addr) (len cap : Nat) (xs : List UInt8) (w : World) (hm : (Lit.int .i64 m).wf = true) (hv : (Lit.int .i64 v).wf = true) (hx : InBytes w a len cap xs) :
    Calls Try.prog 7 #[.int .i64 m, .int .i64 v, .slice a len cap] w fun e w' => e = .returned (.bool true) ∧ Keep [] w w' := by
  obtain ⟨D, hD⟩ : ∃ D, sha xs = D := ⟨_, rfl⟩
  have hDl := sha_length xs
  rw [hD] at hDl
  go_enter Try.func7, Try.ntmps7
  go_upto_region 4 with (first
    | (go_at_call 13; refine (known_any w).mono ?_; rintro e w1 ⟨rfl, hk1⟩)
    | (go_at_call 27; refine (round_any m _ hm).mono ?_; rintro e w2 ⟨r1, hr1, rfl, hw⟩; have hw' := hw.symm; subst hw')
    | fail)
  have u1 : (1 : Int) + r1 ≤ 32 := by omega
  go_upto_region 5 with (first
    | (go_at_call 27; refine (round_any v _ hv).mono ?_; rintro e w2 ⟨r2, hr2, rfl, hw⟩; have hw' := hw.symm; subst hw')
    | fail)
  have hx1 := hx.keep hk1 (by simp)
  have hA1 : shaId (1 + (r1 : Int)) [xs].flatten = upTo D (1 + r1) := by
    rw [shaId, if_neg (by omega), ← hD]; congr 1 <;> first | simp | omega
  have hB1 : shaId (1 + (r2 : Int)) [xs].flatten = upTo D (1 + r2) := by
    rw [shaId, if_neg (by omega), ← hD]; congr 1 <;> first | simp | omega
  have hofA := of_any (1 + (r1 : Int)) _ 1 1 _ _ _ (rowsAt1 hx1 _ rfl) (by omega)
  rw [hA1] at hofA
  have A32 := size32 (upTo D (1 + r1)) (by rw [upTo_length _ (by omega), hDl])
  have B32 := size32 (upTo D (1 + r2)) (by rw [upTo_length _ (by omega), hDl])
  have D32 := size32 D hDl
  have HA := Lib.hid A32
  have HB := Lib.hid B32
  have HDD := Lib.hid D32
  have HDL := Lib.hid hDl
  have HDE := Lib.hid hD
  have HBE := Lib.hid hB1
  have HOF := Lib.hid hofA
  clear A32 B32 D32 hDl hD hA1 hB1 hofA
  go_upto_region 6 with (first
    | (go_at_call 21; refine HOF.out.mono ?_; rintro e w3 ⟨rfl, hk3⟩)
    | (refine wpList_store_last rfl 33 (.tmp 7) (.tmp 22) rfl _ _ (bs (upTo D (1 + r1))).toArray rfl rfl rfl (by rw [HA.out]; rfl) (by rw [HA.out]; rfl) (bs_all _) ?_)
    | fail)
  have k3 : Keep [] w1 (w3.alloc (.cells (bs (upTo D (1 + r1))).toArray 33)) := (((Keep.refl [] w1).alloc (.cells #[.slice a len cap] 29)).trans' hk3).alloc _
  have BA : Blk (w3.alloc (.cells (bs (upTo D (1 + r1))).toArray 33)) w3.heap.size (bs (upTo D (1 + r1))).toArray 33 := Blk.new _ _ _
  obtain ⟨W3, hW3⟩ : ∃ W, w3.alloc (.cells (bs (upTo D (1 + r1))).toArray 33) = W := ⟨_, rfl⟩
  obtain ⟨PA, hPA⟩ : ∃ P, w3.heap.size = P := ⟨_, rfl⟩
  rw [hPA] at BA ⊢
  rw [hW3] at k3 BA ⊢
  clear hW3 hPA hk3 HOF
  have hx3 := hx1.keep k3 (by simp)
  have hofB := of_any (1 + (r2 : Int)) _ 1 1 _ _ _ (rowsAt1 hx3 _ rfl) (by omega)
  rw [HBE.out] at hofB
  have HOF := Lib.hid hofB
  clear hofB
  go_upto_region 7 with (first
    | (go_at_call 21; refine HOF.out.mono ?_; rintro e w4 ⟨rfl, hk4⟩)
    | (refine wpList_store_last rfl 33 (.tmp 8) (.tmp 26) rfl _ _ (bs (upTo D (1 + r2))).toArray rfl rfl rfl (by rw [HB.out]; rfl) (by rw [HB.out]; rfl) (bs_all _) ?_)
    | fail)
  have k4 : Keep [] W3 (w4.alloc (.cells (bs (upTo D (1 + r2))).toArray 33)) := (((Keep.refl [] W3).alloc (.cells #[.slice a len cap] 29)).trans' hk4).alloc _
  have BB : Blk (w4.alloc (.cells (bs (upTo D (1 + r2))).toArray 33)) w4.heap.size (bs (upTo D (1 + r2))).toArray 33 := Blk.new _ _ _
  obtain ⟨W4, hW4⟩ : ∃ W, w4.alloc (.cells (bs (upTo D (1 + r2))).toArray 33) = W := ⟨_, rfl⟩
  obtain ⟨PB, hPB⟩ : ∃ P, w4.heap.size = P := ⟨_, rfl⟩
  rw [hPB] at BB ⊢
  rw [hW4] at k4 BB ⊢
  clear hW4 hPB hk4 HOF
  have hx4 := hx3.keep k4 (by simp)
  have BA4 := BA.keep k4 (by simp)
  have hfull := full_any _ 1 1 _ _ _ (rowsAt1 hx4 _ rfl) (by omega)
  rw [show [xs].flatten = xs by simp, HDE.out] at hfull
  have HF := Lib.hid hfull
  clear hfull BA
  go_upto_region 8 with (first
    | (go_at_call 15; refine HF.out.mono ?_; rintro e w5 ⟨rfl, hk5⟩)
    | (refine wpList_store_last rfl 26 (.tmp 9) (.tmp 29) rfl _ _ (bs D).toArray rfl rfl rfl (by rw [HDD.out]; rfl) (by rw [HDD.out]; rfl) (bs_all _) ?_)
    | fail)
  have k5 : Keep [] W4 (w5.alloc (.cells (bs D).toArray 26)) := (((Keep.refl [] W4).alloc (.cells #[.slice a len cap] 29)).trans' hk5).alloc _
  have BF5 : Blk (w5.alloc (.cells (bs D).toArray 26)) w5.heap.size (bs D).toArray 26 := Blk.new _ _ _
  obtain ⟨W5, hW5⟩ : ∃ W, w5.alloc (.cells (bs D).toArray 26) = W := ⟨_, rfl⟩
  obtain ⟨PF, hPF⟩ : ∃ P, w5.heap.size = P := ⟨_, rfl⟩
  rw [hPF] at BF5 ⊢
  rw [hW5] at k5 BF5 ⊢
  clear hW5 hPF hk5 HF
  have BA5 := BA4.keep k5 (by simp)
  have BB5 := BB.keep k5 (by simp)
  have kW : Keep [] w W5 := ((hk1.trans' k3).trans' k4).trans' k5
  clear BA4 BB k3 k4 k5 hx1 hx3 hx4 hk1
  go_wp2_with fail
  go_loopw [10] (fun v wx => ∃ i, i ≤ 32 ∧ v = .int .i64 (i : Nat) ∧ Blk wx PF (bs D).toArray 26 ∧ Blk wx PA (bs (upTo D (1 + r1))).toArray 33 ∧ Blk wx PB (bs (upTo D (1 + r2))).toArray 33 ∧ Keep [] w wx) (fun v _ => 32 - (intOf v).toNat)
  case atStart => exact ⟨0, by omega, rfl, BF5, BA5, BB5, kW⟩
  case round =>
    clear BF5 BA5 BB5 kW
    obtain ⟨i, hi, rfl, BF, BA, BB, kW⟩ := hrel
    by_cases hlt : i < 32
    · have hDl := HDL.out
      obtain ⟨d, hd⟩ : ∃ d, D[i]? = some d := ⟨_, List.getElem?_eq_getElem (by omega)⟩
      have gA := upTo_get (l := D) (k := 1 + r1) (i := i) (by omega) (by omega)
      have gB := upTo_get (l := D) (k := 1 + r2) (i := i) (by omega) (by omega)
      rw [hd] at gA gB
      have cF : wr.cell? ⟨PF, i, none⟩ = some (B8 d) := BF.cell (by simp [bs, hd])
      clear hDl
      by_cases q1 : i < 1 + r1
      · rw [if_pos q1] at gA
        have cA : wr.cell? ⟨PA, i, none⟩ = some (B8 d) := BA.cell (by simp [bs, gA])
        have e1 : decide ((i : Int) < 1 + r1) = true := by simp; omega
        have e3 : decide ((1 : Int) + r1 ≤ i) = false := by simp; omega
        clear gA hd
        by_cases q2 : i < 1 + r2
        · rw [if_pos q2] at gB
          have cB : wr.cell? ⟨PB, i, none⟩ = some (B8 d) := BB.cell (by simp [bs, gB])
          have e2 : decide ((i : Int) < 1 + r2) = true := by simp; omega
          clear gB q1 q2
          go_wp2_with fail
          go_quiet (fail)
          go_wp2_with fail
          go_quiet (fail)
          go_wp2_with fail
          exact ⟨⟨i + 1, by omega, by go_num, BF, BA, BB, ⟨kW.os, kW.tape, kW.output, kW.size, kW.block⟩⟩, by simp [intOf]; omega⟩
        · have e2 : decide ((i : Int) < 1 + r2) = false := by simp; omega
          clear gB q1 q2
          go_wp2_with fail
          go_quiet (fail)
          go_wp2_with fail
          go_quiet (fail)
          go_wp2_with fail
          exact ⟨⟨i + 1, by omega, by go_num, BF, BA, BB, ⟨kW.os, kW.tape, kW.output, kW.size, kW.block⟩⟩, by simp [intOf]; omega⟩
      · rw [if_neg q1] at gA
        have cA : wr.cell? ⟨PA, i, none⟩ = some (B8 0) := BA.cell (by simp [bs, gA])
        have e1 : decide ((i : Int) < 1 + r1) = false := by simp; omega
        have e3 : decide ((1 : Int) + r1 ≤ i) = true := by simp; omega
        clear gA gB hd q1
        go_wp2_with fail
        go_quiet (fail)
        go_wp2_with fail
        go_quiet (fail)
        go_wp2_with fail
        exact ⟨⟨i + 1, by omega, by go_num, BF, BA, BB, ⟨kW.os, kW.tape, kW.output, kW.size, kW.block⟩⟩, by simp [intOf]; omega⟩
    · go_wp2_with fail
      go_returns
      exact ⟨rfl, kW⟩
end Go.Proofs.Ytlpinbkgbnbkhaa
