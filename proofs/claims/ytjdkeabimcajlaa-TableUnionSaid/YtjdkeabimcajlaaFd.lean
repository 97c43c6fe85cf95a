/- Find: the result of an action, if there is one. -/
import Derived.Test.YtjdkeabimcajlaaRo
set_option linter.unusedVariables false
set_option linter.unusedSimpArgs false
namespace Go.Proofs.Ytjdkeabimcajlaa
open Go.RowKit

def findO (l : List Res) (a : List UInt8) : Option Res := l.find? fun x => x.act == a
def findV (l : List Res) (a : List UInt8) : Res := (findO l a).getD zeroR
def findB (l : List Res) (a : List UInt8) : Bool := (findO l a).isSome
theorem find_hit {l : List Res} {a : List UInt8} {i : Nat} {x : Res} (h : findO (l.take i) a = none) (hx : l[i]? = some x) (hq : (x.act == a) = true) : findO l a = some x := by
  obtain ⟨hi, e⟩ := List.getElem?_eq_some_iff.1 hx
  have hs : l = l.take i ++ x :: l.drop (i + 1) := by rw [← e, List.getElem_cons_drop, List.take_append_drop]
  unfold findO at h ⊢
  rw [hs, List.find?_append, h]
  simp [hq]
theorem find_miss {l : List Res} {a : List UInt8} {i : Nat} {x : Res} (h : findO (l.take i) a = none) (hx : l[i]? = some x) (hq : (x.act == a) = false) : findO (l.take (i + 1)) a = none := by
  unfold findO at h ⊢
  rw [List.take_add_one, hx, List.find?_append, h]
  simp [hq]
theorem find_in {l : List Res} {i : Nat} {x : Res} (h : l[i]? = some x) : findB l x.act = true := by
  unfold findB findO
  rw [List.find?_isSome]
  exact ⟨x, List.mem_of_getElem? h, by simp⟩
theorem results_cellt {P : Program} {fn : Func} {p u : Tmp} {ty : TypeId} (h : fn.results = #[.cell p ty, .tmp u]) (tmps : Array Value) (w : World) (g : Nat) (t : TypeId) (cs : Array Value) (fr : Nat × Nat) (d : TypeDesc)
    (hp : tmps.getD p undef = .pointer (some ⟨g, 0, none⟩)) (hg : w.heap[g]? = some (.cells cs t fr))
    (hu : P.underlying ty = some d) (hd : (match d with | .struct _ | .array _ _ => true | _ => false) = true) (hi : (P.info? ty).map (·.size) = some cs.size) (b : Bool) (hb : tmps.getD u undef = .bool b) :
    (results fn tmps).run P w = .ok (.tuple #[.agg cs, .bool b]) w := by
  have hp' : tmps[p]?.getD undef = .pointer (some ⟨g, 0, none⟩) := by simpa using hp
  have hb' : tmps[u]?.getD undef = .bool b := by simpa using hb
  simp [results, h, hp', hb', asAddr, run_loadVar_row w g t ty cs fr d hg hu hd hi]
theorem zero_blk : zeroR.cells.toArray = Try.zeroCells39 := rfl
theorem zero65 : Try.zeroCells39.size = 65 := rfl
theorem zero_info : (Try.prog.info? 39).map (·.size) = some Try.zeroCells39.size := by rw [zero65]; rfl
theorem zero_all : Try.zeroCells39.all (·.oneCell') = true := by rw [← zero_blk]; exact res_all zeroR
theorem res_zero {x : Res} (h : x.cells.toArray.size = 65) : Try.zeroCells39.size = x.cells.toArray.size := by rw [h, zero65]
theorem find_none {l : List Res} {a : List UInt8} (h : findO l a = none) : (findV l a).cells.toArray = Try.zeroCells39 ∧ findB l a = false := by
  rw [findV, findB, h]; exact ⟨zero_blk, rfl⟩
theorem find_some {l : List Res} {a : List UInt8} {x : Res} (h : findO l a = some x) : findV l a = x ∧ findB l a = true := by
  rw [findV, findB, h]; exact ⟨rfl, rfl⟩

set_option maxHeartbeats 4000000 in
set_option maxRecDepth 100000 in
theorem find_any (a : Option Addr) (n c : Nat) (l : List Res) (key : List UInt8) (w : World) (hx : RsIn w a n c l) (hk : key.length = 32) :
    Calls Try.prog 30 #[.slice a n c, .agg (bs key).toArray] w fun e w' => e = .returned (.tuple #[.agg (findV l key).cells.toArray, .bool (findB l key)]) ∧ Keep [] w w' := by
  have hl := hx.hlen
  have m1 := hx.short
  have HL := Lib.hid hl
  have HK32 := Lib.hid hk
  obtain ⟨N, hN, hso⟩ := size39
  have HN := Lib.hid hN
  obtain ⟨T, hT⟩ : ∃ T, w.heap.size = T := ⟨_, rfl⟩
  obtain ⟨Z, hZ⟩ : ∃ Z, w.heap.size + 1 = Z := ⟨_, rfl⟩
  obtain ⟨W1, hW1⟩ : ∃ W, w.alloc (.cells (bs key).toArray 37) = W := ⟨_, rfl⟩
  obtain ⟨W, hW⟩ : ∃ W, W1.alloc (.cells Try.zeroCells39 39) = W := ⟨_, rfl⟩
  have hs1 : W1.heap.size = Z := by rw [← hW1, ← hZ]; simp
  have BK : Blk W T (bs key).toArray 37 := by rw [← hW, ← hW1, ← hT]; exact (Blk.new w _ 37).alloc _
  have BZ : Blk W Z Try.zeroCells39 39 := by rw [← hW, ← hs1]; exact Blk.new W1 _ 39
  have kW : Keep [] w W := by rw [← hW, ← hW1]; exact ((Keep.refl [] w).alloc _).alloc _
  have hxW := hx.keep kW (by simp)
  have HW := Lib.hid hW
  have HW1 := Lib.hid hW1
  have HT := Lib.hid hT
  have HZ := Lib.hid hZ
  have hZw : w.heap.size ≤ Z := by omega
  clear hl hk hN hT hZ hW hW1 hs1
  go_enter Try.func30, Try.ntmps30
  go_upto_region 2 with fail
  rw [HW1.out, HW.out, HZ.out, HT.out]
  go_loopw [7, 10] (fun _ v10 wr => ∃ i, i ≤ n ∧ v10 = .int .i64 (i : Nat) ∧ Hid (findO (l.take i) key = none) ∧ Keep [] W wr) (fun _ v10 _ => n - (intOf v10).toNat)
  case atStart => exact ⟨0, by omega, rfl, Lib.hid rfl, Keep.refl _ _⟩
  case round =>
    obtain ⟨i, hi, rfl, HO, kk⟩ := hrel
    have BKr := BK.keep kk (by simp)
    have BZr := BZ.keep kk (by simp)
    by_cases hlt : i < n
    · obtain ⟨x, b, off, ex, rfl, rx⟩ := (hxW.keep kk (by simp)).at hlt
      have i0 : (0 : Int) ≤ i := by omega
      have i1 : (i : Int) < n := by omega
      have HEX := Lib.hid ex
      rw [HN.out] at rx
      have x65 : x.cells.toArray.size = 65 := by simpa using x.len
      have HX65 := Lib.hid x65
      clear ex x65
      go_upto_region 4 with (first
        | (refine wpList_load_mid rfl 39 (.tmp 12) rfl b (off + i * N) rfl x.cells _ rx Try.underlying39 rfl (hi39 x) ?_)
        | (refine wpList_store_last rfl 39 (.tmp 7) (.tmp 13) rfl _ _ x.cells.toArray rfl rfl rfl (by rw [HX65.out]; rfl) (by rw [HX65.out]; rfl) (res_all x) ?_)
        | fail)
      have BX : Blk (wr.alloc (.cells x.cells.toArray 39)) wr.heap.size x.cells.toArray 39 := Blk.new _ _ _
      have k1 : Keep [] wr (wr.alloc (.cells x.cells.toArray 39)) := (Keep.refl [] wr).alloc _
      obtain ⟨W4, hW4⟩ : ∃ W, wr.alloc (.cells x.cells.toArray 39) = W := ⟨_, rfl⟩
      obtain ⟨px, hpx⟩ : ∃ P, wr.heap.size = P := ⟨_, rfl⟩
      rw [hW4] at k1 BX ⊢
      rw [hpx] at BX ⊢
      have rX := rangeAt_of_blk BX
      have BK4 := BKr.keep k1 (by simp)
      have BZ4 := BZr.keep k1 (by simp)
      have rK := rangeAt_of_blk BK4
      have q := fun w => eql_id 9998 x.act key x.la HK32.out w
      have kk4 := kk.trans' k1
      clear hW4 hpx
      have HHI := hi37 (xs := key) HK32.out
      cases ht : (x.act == key) with
      | true =>
        have HT' := Lib.hid (find_hit HO.out HEX.out ht)
        rw [ht] at q
        clear ht
        go_wp2_with (first
          | (refine wpList_load_mid rfl 37 (.tmp 14) rfl px 0 rfl (bs x.act) _ (rangeAt_act rX) Try.underlying37 rfl (hi37 x.la) ?_)
          | (refine wpList_load_mid rfl 37 (.tmp 3) rfl T 0 rfl (bs key) _ rK Try.underlying37 rfl HHI ?_)
          | (refine wpList_load_mid rfl 39 (.tmp 7) rfl px 0 rfl x.cells _ rX Try.underlying39 rfl (hi39 x) ?_)
          | (refine wpList_store_row rfl 39 (.tmp 4) (.tmp 18) rfl Z x.cells.toArray rfl rfl 39 Try.zeroCells39 BZ4 (by rw [HX65.out]; rfl) (res_zero HX65.out) (res_all x) ?_)
          | fail)
        refine bodyPost_ret (results_cellt rfl _ _ Z 39 x.cells.toArray (0, 0) _ rfl (BZ4.setRow _) Try.underlying39 rfl (by rw [HX65.out]; rfl) true rfl) rfl ⟨?_, (kW.trans' kk4).setRow (Or.inr hZw) _⟩
        rw [(find_some HT'.out).1, (find_some HT'.out).2]
      | false =>
        have HT' := Lib.hid (find_miss HO.out HEX.out ht)
        rw [ht] at q
        clear ht
        go_wp2_with (first
          | (refine wpList_load_mid rfl 37 (.tmp 14) rfl px 0 rfl (bs x.act) _ (rangeAt_act rX) Try.underlying37 rfl (hi37 x.la) ?_)
          | (refine wpList_load_mid rfl 37 (.tmp 3) rfl T 0 rfl (bs key) _ rK Try.underlying37 rfl HHI ?_)
          | fail)
        exact ⟨⟨i + 1, by omega, by go_num, HT', kk4⟩, by simp [intOf]; omega⟩
    · have e : i = n := by omega
      have HE := Lib.hid (show findO l key = none by have := HO.out; rwa [e, List.take_of_length_le (by rw [HL.out]; exact Nat.le_refl _)] at this)
      subst e
      go_wp2_with (first
        | (refine wpList_store_row rfl 39 (.tmp 4) (.tmp 20) rfl Z Try.zeroCells39 rfl rfl 39 Try.zeroCells39 BZr zero_info rfl zero_all ?_)
        | fail)
      refine bodyPost_ret (results_cellt rfl _ _ Z 39 Try.zeroCells39 (0, 0) _ rfl (BZr.setRow _) Try.underlying39 rfl zero_info false rfl) rfl ⟨?_, (kW.trans' kk).setRow (Or.inr hZw) _⟩
      rw [(find_none HE.out).1, (find_none HE.out).2]

set_option maxHeartbeats 4000000 in
set_option maxRecDepth 100000 in
theorem refFind_any (a : Option Addr) (n c : Nat) (l : List Res) (key : List UInt8) (w : World) (hx : RsIn w a n c l) (hk : key.length = 32) :
    Calls Try.prog 31 #[.slice a n c, .agg (bs key).toArray] w fun e w' => e = .returned (.tuple #[.agg (findV l key).cells.toArray, .bool (findB l key)]) ∧ Keep [] w w' := by
  have hl := hx.hlen
  have m1 := hx.short
  have HL := Lib.hid hl
  have HK32 := Lib.hid hk
  obtain ⟨N, hN, hso⟩ := size39
  have HN := Lib.hid hN
  obtain ⟨M, hM, hso2⟩ := size37
  have HM := Lib.hid hM
  have hM0 : ¬ (M = 0) := by omega
  obtain ⟨T, hT⟩ : ∃ T, w.heap.size = T := ⟨_, rfl⟩
  obtain ⟨Z, hZ⟩ : ∃ Z, w.heap.size + 1 = Z := ⟨_, rfl⟩
  obtain ⟨W1, hW1⟩ : ∃ W, w.alloc (.cells (bs key).toArray 37) = W := ⟨_, rfl⟩
  obtain ⟨W, hW⟩ : ∃ W, W1.alloc (.cells Try.zeroCells39 39) = W := ⟨_, rfl⟩
  have hs1 : W1.heap.size = Z := by rw [← hW1, ← hZ]; simp
  have BK : Blk W T (bs key).toArray 37 := by rw [← hW, ← hW1, ← hT]; exact (Blk.new w _ 37).alloc _
  have BZ : Blk W Z Try.zeroCells39 39 := by rw [← hW, ← hs1]; exact Blk.new W1 _ 39
  have kW : Keep [] w W := by rw [← hW, ← hW1]; exact ((Keep.refl [] w).alloc _).alloc _
  have hxW := hx.keep kW (by simp)
  have HW := Lib.hid hW
  have HW1 := Lib.hid hW1
  have HT := Lib.hid hT
  have HZ := Lib.hid hZ
  have hZw : w.heap.size ≤ Z := by omega
  clear hl hk hN hM hT hZ hW hW1 hs1
  go_enter Try.func31, Try.ntmps31
  go_upto_region 2 with fail
  rw [HW1.out, HW.out, HZ.out, HT.out]
  go_loopw [6] (fun v6 wr => ∃ i, i ≤ n ∧ v6 = .int .i64 (i : Nat) ∧ Hid (findO (l.take i) key = none) ∧ Keep [] W wr) (fun v6 _ => n - (intOf v6).toNat)
  case atStart => exact ⟨0, by omega, rfl, Lib.hid rfl, Keep.refl _ _⟩
  case round =>
    obtain ⟨i, hi, rfl, HO, kk⟩ := hrel
    have BKr := BK.keep kk (by simp)
    have BZr := BZ.keep kk (by simp)
    by_cases hlt : i < n
    · obtain ⟨x, b, off, ex, rfl, rx⟩ := (hxW.keep kk (by simp)).at hlt
      have i0 : (0 : Int) ≤ i := by omega
      have i1 : (i : Int) < n := by omega
      have HEX := Lib.hid ex
      rw [HN.out] at rx
      have x65 : x.cells.toArray.size = 65 := by simpa using x.len
      have HX65 := Lib.hid x65
      have l1 := load_range (N := M) (rangeAt_act rx) (by rw [bs_length, x.la]; exact HM.out)
      have l2 := load_range (N := M) (rangeAt_of_blk BKr) (by rw [bs_length, HK32.out]; exact HM.out)
      have q := fun w => eql_id 9998 x.act key x.la HK32.out w
      clear ex x65
      go_upto_region 4 with fail
      cases ht : (x.act == key) with
      | true =>
        have HT' := Lib.hid (find_hit HO.out HEX.out ht)
        rw [ht] at q
        clear ht
        go_quiet (fail)
        go_wp2_with (first
          | (refine wpList_load_mid rfl 39 (.tmp 22) rfl b (off + i * N) rfl x.cells _ rx Try.underlying39 rfl (hi39 x) ?_)
          | (refine wpList_store_row rfl 39 (.tmp 4) (.tmp 23) rfl Z x.cells.toArray rfl rfl 39 Try.zeroCells39 BZr (by rw [HX65.out]; rfl) (res_zero HX65.out) (res_all x) ?_)
          | fail)
        refine bodyPost_ret (results_cellt rfl _ _ Z 39 x.cells.toArray (0, 0) _ rfl (Blk.setRow (BZr.drewN) _) Try.underlying39 rfl (by rw [HX65.out]; rfl) true rfl) rfl ⟨?_, (kW.trans' kk).drewN.setRow (Or.inr hZw) _⟩
        rw [(find_some HT'.out).1, (find_some HT'.out).2]
      | false =>
        have HT' := Lib.hid (find_miss HO.out HEX.out ht)
        rw [ht] at q
        clear ht
        go_quiet (fail)
        go_wp2_with fail
        exact ⟨⟨i + 1, by omega, by go_num, HT', kk.drewN⟩, by simp [intOf]; omega⟩
    · have e : i = n := by omega
      have HE := Lib.hid (show findO l key = none by have := HO.out; rwa [e, List.take_of_length_le (by rw [HL.out]; exact Nat.le_refl _)] at this)
      subst e
      go_wp2_with (first
        | (refine wpList_store_row rfl 39 (.tmp 4) (.tmp 24) rfl Z Try.zeroCells39 rfl rfl 39 Try.zeroCells39 BZr zero_info rfl zero_all ?_)
        | fail)
      refine bodyPost_ret (results_cellt rfl _ _ Z 39 Try.zeroCells39 (0, 0) _ rfl (BZr.setRow _) Try.underlying39 rfl zero_info false rfl) rfl ⟨?_, (kW.trans' kk).setRow (Or.inr hZw) _⟩
      rw [(find_none HE.out).1, (find_none HE.out).2]
end Go.Proofs.Ytjdkeabimcajlaa
