/- TableSets: its walk. -/
import Derived.Test.YtjdkeabimcajlaaPs
import Derived.Test.YtjdkeabimcajlaaFl
import Derived.Test.YtjdkeabimcajlaaTw
import Derived.Test.YtjdkeabimcajlaaVc
set_option linter.unusedVariables false
set_option linter.unusedSimpArgs false
namespace Go.Proofs.Ytjdkeabimcajlaa
open Go.RowKit

set_option maxHeartbeats 4000000 in
set_option maxRecDepth 100000 in
theorem tableSets_walk (a : Option Addr) (n c : Nat) (l : List Res) (x : Res) (w : World) (hx : RsIn w a n c l) (_ : True) :
    Calls Try.prog 8 #[.slice a n c, .agg x.cells.toArray] w fun e w' => e = .returned (.bool true) ∧ Keep [] w w' := by
  have hl := hx.hlen
  have hsh := hx.short
  obtain ⟨rs, hrs⟩ : ∃ rs, givR l x = rs := ⟨_, rfl⟩
  obtain ⟨z1, hz1⟩ : ∃ z, withC l x = z := ⟨_, rfl⟩
  have E1 := Lib.hid (fun a n c W h => (with_any a n c l x W h).mono (fun e w' hg => by rw [hrs, hz1] at hg; exact give_name hg (by rw [← hrs]; exact withR_short)) : ∀ a n c W, RsIn W a n c l → Calls Try.prog 22 #[.slice a n c, .agg x.cells.toArray] W fun e w' => ∃ a' n' c', e = .returned (.tuple #[.slice a' n' c', .int .i64 z1]) ∧ RsIn w' a' n' c' rs ∧ Fr W [] (blks (.slice a' n' c')) ∧ Keep [] W w')
  obtain ⟨T, hT⟩ : ∃ T, w.heap.size = T := ⟨_, rfl⟩
  obtain ⟨W, hW⟩ : ∃ W, w.alloc (.cells x.cells.toArray 39) = W := ⟨_, rfl⟩
  have BX : Blk W T x.cells.toArray 39 := by rw [← hW, ← hT]; exact Blk.new w _ 39
  have kW : Keep [] w W := by rw [← hW]; exact (Keep.refl [] w).alloc _
  have hxW := hx.keep kW (by simp)
  have HW := Lib.hid hW
  have HT := Lib.hid hT
  have HL := Lib.hid hl
  obtain ⟨N, hN, hso⟩ := size39
  have HN := Lib.hid hN
  clear hW hT hl hN
  have rX0 := rangeAt_of_blk BX
  by_cases hz : z1 = 0
  · subst hz
    have HS := Lib.hid (sets_of hz1)
    rw [hrs] at HS
    obtain ⟨was, hwas⟩ : ∃ b, findB l x.act = b := ⟨_, rfl⟩
    obtain ⟨u, hu⟩ : ∃ b, findV l x.act = b := ⟨_, rfl⟩
    have L1 := Lib.hid (fun a n c W h => by have := lawFits_any a n c l W h; rwa [HS.out.vl] at this : ∀ a n c W, RsIn W a n c l → Calls Try.prog 28 #[.slice a n c] W fun e w' => e = .returned (.bool true) ∧ Keep [] W w')
    have L2 := Lib.hid (fun a n c W h => by have := lawFits_any a n c rs W h; rwa [HS.out.vr] at this : ∀ a n c W, RsIn W a n c rs → Calls Try.prog 28 #[.slice a n c] W fun e w' => e = .returned (.bool true) ∧ Keep [] W w')
    have F1 := Lib.hid (fun a n c W h => by have := find_any a n c rs x.act W h x.la; rwa [HS.out.found.1, HS.out.found.2] at this : ∀ a n c W, RsIn W a n c rs → Calls Try.prog 30 #[.slice a n c, .agg (bs x.act).toArray] W fun e w' => e = .returned (.tuple #[.agg x.cells.toArray, .bool true]) ∧ Keep [] W w')
    have F2 := Lib.hid (fun a n c W h => by have := lawFind_any a n c l x.act W h x.la; rwa [hu, hwas] at this : ∀ a n c W, RsIn W a n c l → Calls Try.prog 29 #[.slice a n c, .agg (bs x.act).toArray] W fun e w' => e = .returned (.tuple #[.agg u.cells.toArray, .bool was]) ∧ Keep [] W w')
    have E2 := Lib.hid (fun a n c W h => (with_any a n c rs x W h).mono (fun e w' hg => by rw [HS.out.again.1, HS.out.again.2] at hg; exact give_name hg HS.out.short) : ∀ a n c W, RsIn W a n c rs → Calls Try.prog 22 #[.slice a n c, .agg x.cells.toArray] W fun e w' => ∃ a' n' c', e = .returned (.tuple #[.slice a' n' c', .int .i64 0]) ∧ RsIn w' a' n' c' rs ∧ Fr W [] (blks (.slice a' n' c')) ∧ Keep [] W w')
    have q1 : ∀ w, (Op.equalIn 10000 39 (.agg x.cells.toArray) (.agg x.cells.toArray)).run Try.prog w = .ok true w := fun w => by rw [eql_res, decide_eq_true rfl]
    have HX65 := Lib.hid (show x.cells.toArray.size = 65 by simpa using x.len)
    have HU := Lib.hid (show u.cells.toArray.size = 65 by simpa using u.len)
    have HWS := Lib.hid hwas
    clear hrs hz1 hwas hu
    go_enter Try.func8, Try.ntmps8
    go_upto_region 1 with fail
    rw [HW.out, HT.out]
    go_upto_region 2 with (first
      | (refine wpList_load_mid rfl 39 (.tmp 3) rfl T 0 rfl x.cells _ rX0 Try.underlying39 rfl (hi39 x) ?_)
      | (go_at_call 22; refine (E1.out _ n c _ hxW).mono ?_; rintro e w1 ⟨a5, m, d, rfl, t1, f1, k1⟩)
      | fail)
    have hml := t1.hlen
    have h1 : n ≤ m := by have := HS.out.lo; have := HL.out; omega
    have h2 : m ≤ n + 1 := by have := HS.out.hi; have := HL.out; omega
    have i1 : ¬ ((m : Int) < n) := by omega
    have i2 : ¬ ((n : Int) + 1 < m) := by omega
    have hx1 := hxW.keep k1 (by simp)
    have hq : ((m : Int) == (n : Int)) = was := by
      rw [← HWS.out, HS.out.was, hml, HL.out]
      by_cases e : m = n
      · subst e; simp
      · rw [decide_eq_false e]; simpa using (show ¬ (m : Int) = n by omega)
    have hq2 : (was != was) = false := by cases was <;> rfl
    have hq3 := Lib.hid hq
    clear hml hq
    go_upto_region 6 with (first
      | (go_at_call 28; refine (L2.out _ m d _ (t1.keep k2 (by simp))).mono ?_; rintro e w3 ⟨rfl, k3⟩)
      | (go_at_call 28; refine (L1.out _ n c _ hx1).mono ?_; rintro e w2 ⟨rfl, k2⟩)
      | fail)
    have k03 := (k1.trans' k2).trans' k3
    have t3 := t1.keep (k2.trans' k3) (by simp)
    have BX3 := BX.keep k03 (by simp)
    have rX3 := rangeAt_of_blk BX3
    have kk3 := kW.trans' k03
    go_upto_region 7 with (first
      | (refine wpList_load_mid rfl 37 (.tmp 55) rfl T 0 rfl (bs x.act) _ (rangeAt_act rX3) Try.underlying37 rfl (hi37 x.la) ?_)
      | (go_at_call 30; refine (F1.out _ m d _ t3).mono ?_; rintro e w4 ⟨rfl, k4⟩)
      | (refine wpList_store_last rfl 39 (.tmp 7) (.tmp 58) rfl _ _ x.cells.toArray rfl rfl rfl (by rw [HX65.out]; rfl) (by rw [HX65.out]; rfl) (res_all x) ?_)
      | fail)
    have B7 : Blk (w4.alloc (.cells x.cells.toArray 39)) w4.heap.size x.cells.toArray 39 := Blk.new _ _ _
    have k5 : Keep [] w3 (w4.alloc (.cells x.cells.toArray 39)) := k4.alloc _
    obtain ⟨W5, hW5⟩ : ∃ W, w4.alloc (.cells x.cells.toArray 39) = W := ⟨_, rfl⟩
    obtain ⟨P7, hP7⟩ : ∃ P, w4.heap.size = P := ⟨_, rfl⟩
    rw [hW5] at k5 B7 ⊢
    rw [hP7] at B7 ⊢
    clear hW5 hP7 k4
    have r7 := rangeAt_of_blk B7
    have BX5 := BX3.keep k5 (by simp)
    have rX5 := rangeAt_of_blk BX5
    have hx5 := hx.keep (kk3.trans' k5) (by simp)
    have t5 := t3.keep k5 (by simp)
    have kk5 := kk3.trans' k5
    clear k1 k2 k3 k03 k5 hx1 hxW t1 t3 BX BX3 rX0 rX3 kW kk3
    go_upto_region 10 with (first
      | (refine wpList_load_mid_w 39 (.tmp 7) rfl (by rfl) P7 0 rfl x.cells _ r7 Try.underlying39 rfl (hi39 x) ?_)
      | (refine wpList_load_mid_w 39 (.tmp 3) rfl (by rfl) T 0 rfl x.cells _ rX5 Try.underlying39 rfl (hi39 x) ?_)
      | (refine wpList_load_mid rfl 37 (.tmp 69) rfl T 0 rfl (bs x.act) _ (rangeAt_act rX5) Try.underlying37 rfl (hi37 x.la) ?_)
      | (go_at_call 29; refine (F2.out _ n c _ hx5).mono ?_; rintro e w6 ⟨rfl, k6⟩)
      | (refine wpList_store_last rfl 39 (.tmp 9) (.tmp 72) rfl _ _ u.cells.toArray rfl rfl rfl (by rw [HU.out]; rfl) (by rw [HU.out]; rfl) (res_all u) ?_)
      | fail)
    have k7 : Keep [] W5 (w6.alloc (.cells u.cells.toArray 39)) := k6.alloc _
    obtain ⟨W7, hW7⟩ : ∃ W, w6.alloc (.cells u.cells.toArray 39) = W := ⟨_, rfl⟩
    obtain ⟨P9, hP9⟩ : ∃ P, w6.heap.size = P := ⟨_, rfl⟩
    rw [hW7] at k7 ⊢
    rw [hP9]
    clear hW7 hP9 k6
    have BX7 := BX5.keep k7 (by simp)
    have hx7 := hx5.keep k7 (by simp)
    have t7 := t5.keep k7 (by simp)
    have kk7 := kk5.trans' k7
    clear k7 hx5 t5 BX5 r7 rX5 B7 kk5
    have hq := hq3.out
    go_upto_region 13 with fail
    clear hq
    go_loopw [11, 12, 13] (fun v11 _ _ wr => ∃ i, i ≤ n ∧ v11 = .int .i64 (i : Nat) ∧ Keep [] W7 wr) (fun v11 _ _ _ => n - (intOf v11).toNat)
    case atStart => exact ⟨0, by omega, rfl, Keep.refl _ _⟩
    case round =>
      obtain ⟨i, hi, rfl, kk⟩ := hrel
      have hxr := hx7.keep kk (by simp)
      have tr := t7.keep kk (by simp)
      have BXr := BX7.keep kk (by simp)
      have rXr := rangeAt_of_blk BXr
      by_cases hlt : i < n
      · obtain ⟨y, b, off, ey, rfl, ry⟩ := hxr.at hlt
        have i3 : (0 : Int) ≤ i := by omega
        have i4 : (i : Int) < n := by omega
        rw [HN.out] at ry
        have q := fun w => eql_id 9998 y.act x.act y.la x.la w
        cases ht : (y.act == x.act) with
        | true =>
          obtain ⟨M, hM, hso2⟩ := size37
          have hM0 : ¬ (M = 0) := by omega
          have l1 := load_range (N := M) (rangeAt_act ry) (by rw [bs_length, y.la]; exact hM)
          have l2 := load_range (N := M) (rangeAt_act rXr) (by rw [bs_length, x.la]; exact hM)
          rw [ht] at q
          clear ht ey hM
          go_upto_region 15 with fail
          go_quiet (fail)
          go_wp2_with fail
          exact ⟨⟨i + 1, by omega, by go_num, kk.drewN⟩, by simp [intOf]; omega⟩
        | false =>
          have hne : y.act ≠ x.act := by simpa using ht
          have HF := HS.out.rest y (List.mem_of_getElem? ey) hne
          have F3 := Lib.hid (fun a n c W h => by have := find_any a n c rs y.act W h y.la; rwa [HF.1, HF.2] at this : ∀ a n c W, RsIn W a n c rs → Calls Try.prog 30 #[.slice a n c, .agg (bs y.act).toArray] W fun e w' => e = .returned (.tuple #[.agg y.cells.toArray, .bool true]) ∧ Keep [] W w')
          have q2 : ∀ w, (Op.equalIn 10000 39 (.agg y.cells.toArray) (.agg y.cells.toArray)).run Try.prog w = .ok true w := fun w => by rw [eql_res, decide_eq_true rfl]
          have HY65 := Lib.hid (show y.cells.toArray.size = 65 by simpa using y.len)
          rw [ht] at q
          clear ht ey HF hne
          obtain ⟨M, hM, hso2⟩ := size37
          have hM0 : ¬ (M = 0) := by omega
          have l1 := load_range (N := M) (rangeAt_act ry) (by rw [bs_length, y.la]; exact hM)
          have l2 := load_range (N := M) (rangeAt_act rXr) (by rw [bs_length, x.la]; exact hM)
          clear hM
          go_upto_region 15 with fail
          go_quiet (fail)
          clear l1 l2 hso2
          have kd : Keep [] wr (wr.drewN nq) := (Keep.refl [] wr).drewN
          generalize wr.drewN nq = wd at kd ⊢
          have rd := rangeAt_keep ry kd (by simp)
          have td := tr.keep kd (by simp)
          go_upto_region 17 with (first
            | (refine wpList_load_mid rfl 37 (.tmp 100) rfl b (off + i * N) rfl (bs y.act) _ (rangeAt_act rd) Try.underlying37 rfl (hi37 y.la) ?_)
            | (go_at_call 30; refine (F3.out _ m d _ td).mono ?_; rintro e w8 ⟨rfl, k8⟩)
            | (refine wpList_store_last rfl 39 (.tmp 12) (.tmp 103) rfl _ _ y.cells.toArray rfl rfl rfl (by rw [HY65.out]; rfl) (by rw [HY65.out]; rfl) (res_all y) ?_)
            | fail)
          have BA : Blk (w8.alloc (.cells y.cells.toArray 39)) w8.heap.size y.cells.toArray 39 := Blk.new _ _ _
          have k9 : Keep [] wd (w8.alloc (.cells y.cells.toArray 39)) := k8.alloc _
          obtain ⟨W9, hW9⟩ : ∃ W, w8.alloc (.cells y.cells.toArray 39) = W := ⟨_, rfl⟩
          obtain ⟨PA, hPA⟩ : ∃ P, w8.heap.size = P := ⟨_, rfl⟩
          rw [hW9] at k9 BA ⊢
          rw [hPA] at BA ⊢
          clear hW9 hPA k8
          have l3 := load_range (N := N) (rangeAt_of_blk BA) (y.len.trans HN.out)
          have l4 := load_range (N := N) (rangeAt_keep rd k9 (by simp)) (y.len.trans HN.out)
          have kk9 := (kk.trans' kd).trans' k9
          go_quiet (fail)
          go_wp2_with fail
          exact ⟨⟨i + 1, by omega, by go_num, kk9.drewN⟩, by simp [intOf]; omega⟩
      · have e : i = n := by omega
        subst e
        clear hi hlt
        have kkr := kk7.trans' kk
        go_upto_region 20 with (first
          | (refine wpList_load_mid rfl 39 (.tmp 3) rfl T 0 rfl x.cells _ rXr Try.underlying39 rfl (hi39 x) ?_)
          | (go_at_call 22; refine (E2.out _ m d _ tr).mono ?_; rintro e wA ⟨a8, m8, d8, rfl, t8, f8, k8⟩)
          | fail)
        have trA := tr.keep k8 (by simp)
        go_wp2_with (first
          | (go_at_call 24; refine (like_eq a8 a5 m8 d8 m d rs _ t8 trA).mono ?_; rintro e wB ⟨rfl, kB⟩)
          | (go_at_call 21; refine (awake_any _).mono ?_; rintro e wC ⟨rfl, kC⟩)
          | fail)
        go_returns
        exact ⟨rfl, ((kkr.trans' k8).trans' kB).trans' kC⟩
  · have hq : (z1 != 0) = true := by simpa using hz
    have he : rs = [] := by rw [← hrs]; exact sets_no (by rw [hz1]; exact hz)
    have HE := Lib.hid he
    clear hrs hz1 he
    go_enter Try.func8, Try.ntmps8
    go_upto_region 1 with fail
    rw [HW.out, HT.out]
    go_upto_region 2 with (first
      | (refine wpList_load_mid rfl 39 (.tmp 3) rfl T 0 rfl x.cells _ rX0 Try.underlying39 rfl (hi39 x) ?_)
      | (go_at_call 22; refine (E1.out _ n c _ hxW).mono ?_; rintro e w1 ⟨a5, m, d, rfl, t1, f1, k1⟩)
      | fail)
    obtain rfl : m = 0 := by have := t1.hlen; rw [HE.out] at this; exact this.symm
    go_wp2_with (first
      | (go_at_call 21; refine (awake_any _).mono ?_; rintro e wI ⟨rfl, kI⟩)
      | fail)
    go_returns
    exact ⟨rfl, (kW.trans' k1).trans' kI⟩
end Go.Proofs.Ytjdkeabimcajlaa
