/- 'of' of the law: the result of an action, if there is one. -/
import Derived.Test.YtjdkeabimcajlaaFd
set_option linter.unusedVariables false
set_option linter.unusedSimpArgs false
namespace Go.Proofs.Ytjdkeabimcajlaa
open Go.RowKit

set_option maxHeartbeats 4000000 in
set_option maxRecDepth 100000 in
theorem lawFind_any (a : Option Addr) (n c : Nat) (l : List Res) (key : List UInt8) (w : World) (hx : RsIn w a n c l) (hk : key.length = 32) :
    Calls Try.prog 29 #[.slice a n c, .agg (bs key).toArray] w fun e w' => e = .returned (.tuple #[.agg (findV l key).cells.toArray, .bool (findB l key)]) ∧ Keep [] w w' := by
  have hl := hx.hlen
  have m1 := hx.short
  have HL := Lib.hid hl
  have HK32 := Lib.hid hk
  obtain ⟨N, hN, hso⟩ := size39
  have HN := Lib.hid hN
  obtain ⟨M, hM, hso2⟩ := size37
  have HM := Lib.hid hM
  have hM0 : ¬ (M = 0) := by omega
  obtain ⟨T, hT⟩ : ∃ T, w.heap.size = T := ⟨_, rfl⟩
  obtain ⟨Z, hZ⟩ : ∃ Z, w.heap.size + 1 = Z := ⟨_, rfl⟩
  obtain ⟨W1, hW1⟩ : ∃ W, w.alloc (.cells (bs key).toArray 37) = W := ⟨_, rfl⟩
  obtain ⟨W, hW⟩ : ∃ W, W1.alloc (.cells Try.zeroCells39 39) = W := ⟨_, rfl⟩
  have hs1 : W1.heap.size = Z := by rw [← hW1, ← hZ]; simp
  have BK : Blk W T (bs key).toArray 37 := by rw [← hW, ← hW1, ← hT]; exact (Blk.new w _ 37).alloc _
  have BZ : Blk W Z Try.zeroCells39 39 := by rw [← hW, ← hs1]; exact Blk.new W1 _ 39
  have kW : Keep [] w W := by rw [← hW, ← hW1]; exact ((Keep.refl [] w).alloc _).alloc _
  have hxW := hx.keep kW (by simp)
  have HW := Lib.hid hW
  have HW1 := Lib.hid hW1
  have HT := Lib.hid hT
  have HZ := Lib.hid hZ
  have hZw : w.heap.size ≤ Z := by omega
  clear hl hk hN hM hT hZ hW hW1 hs1
  go_enter Try.func29, Try.ntmps29
  go_upto_region 2 with fail
  rw [HW1.out, HW.out, HZ.out, HT.out]
  go_loopw [6] (fun v6 wr => ∃ i, i ≤ n ∧ v6 = .int .i64 (i : Nat) ∧ Hid (findO (l.take i) key = none) ∧ Keep [] W wr) (fun v6 _ => n - (intOf v6).toNat)
  case atStart => exact ⟨0, by omega, rfl, Lib.hid rfl, Keep.refl _ _⟩
  case round =>
    obtain ⟨i, hi, rfl, HO, kk⟩ := hrel
    have BKr := BK.keep kk (by simp)
    have BZr := BZ.keep kk (by simp)
    by_cases hlt : i < n
    · obtain ⟨x, b, off, ex, rfl, rx⟩ := (hxW.keep kk (by simp)).at hlt
      have i0 : (0 : Int) ≤ i := by omega
      have i1 : (i : Int) < n := by omega
      have HEX := Lib.hid ex
      rw [HN.out] at rx
      have x65 : x.cells.toArray.size = 65 := by simpa using x.len
      have HX65 := Lib.hid x65
      have l1 := load_range (N := M) (rangeAt_act rx) (by rw [bs_length, x.la]; exact HM.out)
      have l2 := load_range (N := M) (rangeAt_of_blk BKr) (by rw [bs_length, HK32.out]; exact HM.out)
      have q := fun w => eql_id 9998 x.act key x.la HK32.out w
      clear ex x65
      go_upto_region 4 with fail
      cases ht : (x.act == key) with
      | true =>
        have HT' := Lib.hid (find_hit HO.out HEX.out ht)
        rw [ht] at q
        clear ht
        go_quiet (fail)
        go_wp2_with (first
          | (refine wpList_load_mid rfl 39 (.tmp 22) rfl b (off + i * N) rfl x.cells _ rx Try.underlying39 rfl (hi39 x) ?_)
          | (refine wpList_store_row rfl 39 (.tmp 4) (.tmp 23) rfl Z x.cells.toArray rfl rfl 39 Try.zeroCells39 BZr (by rw [HX65.out]; rfl) (res_zero HX65.out) (res_all x) ?_)
          | fail)
        refine bodyPost_ret (results_cellt rfl _ _ Z 39 x.cells.toArray (0, 0) _ rfl (Blk.setRow (BZr.drewN) _) Try.underlying39 rfl (by rw [HX65.out]; rfl) true rfl) rfl ⟨?_, (kW.trans' kk).drewN.setRow (Or.inr hZw) _⟩
        rw [(find_some HT'.out).1, (find_some HT'.out).2]
      | false =>
        have HT' := Lib.hid (find_miss HO.out HEX.out ht)
        rw [ht] at q
        clear ht
        go_quiet (fail)
        go_wp2_with fail
        exact ⟨⟨i + 1, by omega, by go_num, HT', kk.drewN⟩, by simp [intOf]; omega⟩
    · have e : i = n := by omega
      have HE := Lib.hid (show findO l key = none by have := HO.out; rwa [e, List.take_of_length_le (by rw [HL.out]; exact Nat.le_refl _)] at this)
      subst e
      go_wp2_with (first
        | (refine wpList_store_row rfl 39 (.tmp 4) (.tmp 24) rfl Z Try.zeroCells39 rfl rfl 39 Try.zeroCells39 BZr zero_info rfl zero_all ?_)
        | fail)
      refine bodyPost_ret (results_cellt rfl _ _ Z 39 Try.zeroCells39 (0, 0) _ rfl (BZr.setRow _) Try.underlying39 rfl zero_info false rfl) rfl ⟨?_, (kW.trans' kk).setRow (Or.inr hZw) _⟩
      rw [(find_none HE.out).1, (find_none HE.out).2]
end Go.Proofs.Ytjdkeabimcajlaa
