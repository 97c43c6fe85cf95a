/- roomy: a table copied into one with room behind. -/
import Derived.Test.YtjdkeabimcajlaaJs
set_option linter.unusedVariables false
set_option linter.unusedSimpArgs false
namespace Go.Proofs.Ytjdkeabimcajlaa
open Go.RowKit

def zeroR : Res := ⟨List.replicate 32 0, List.replicate 32 0, 0, rfl, rfl⟩
def tailR : Res := ⟨List.replicate 32 0, List.replicate 32 0, -77, rfl, rfl⟩
def tails : List Res := [tailR, tailR, tailR]
theorem tail_set : zeroR.cells.set 64 (.int .i64 (-77)) = tailR.cells := rfl
/-- The table as it is when the first i are written. -/
def roomAt (l : List Res) (i : Nat) : List Res := (l ++ tails).take i ++ List.replicate (l.length + 3 - i) zeroR
theorem roomAt_len (l : List Res) {i : Nat} (h : i ≤ l.length + 3) : (roomAt l i).length = l.length + 3 := by
  simp [roomAt, tails]; omega
theorem roomAt_get (l : List Res) {i : Nat} (h : i < l.length + 3) : (roomAt l i)[i]? = some zeroR := by
  have hl : ((l ++ tails).take i).length = i := by simp [tails]; omega
  rw [roomAt, List.getElem?_append_right (by omega), hl, Nat.sub_self, List.getElem?_replicate, if_pos (by omega)]
theorem roomAt_zero (l : List Res) : roomAt l 0 = List.replicate (l.length + 3) zeroR := by simp [roomAt]
theorem roomAt_end (l : List Res) : roomAt l (l.length + 3) = l ++ tails := by
  rw [roomAt, Nat.sub_self, List.take_of_length_le (by simp [tails])]; simp
theorem roomAt_succ (l : List Res) {i : Nat} {z : Res} (h : i < l.length + 3) (hz : (l ++ tails)[i]? = some z) : roomAt l (i + 1) = (roomAt l i).set i z := by
  have hl : ((l ++ tails).take i).length = i := by simp [tails]; omega
  rw [roomAt, roomAt, List.take_add_one, hz, List.set_append_right _ _ (by omega), hl, Nat.sub_self, show l.length + 3 - i = (l.length + 3 - (i + 1)) + 1 by omega, List.replicate_succ]
  simp
theorem cells_put {R : List Res} {i : Nat} (x : Res) (h : i < R.length) : cellsOf (R.take i) ++ (x.cells ++ cellsOf (R.drop (i + 1))) = cellsOf (R.set i x) := by
  rw [List.set_eq_take_append_cons_drop, if_pos h, show x :: R.drop (i + 1) = [x] ++ R.drop (i + 1) from rfl, cellsOf_append, cellsOf_append, cellsOf_one]
theorem cellsOf_replicate (k : Nat) : cellsOf (List.replicate k zeroR) = (madeCells Try.zeroCells39 (k * 65)).toList := by
  have hz : zeroR.cells = Try.zeroCells39.toList := rfl
  have hs : Try.zeroCells39.size = 65 := rfl
  apply List.ext_getElem?
  intro j
  have hlen : (madeCells Try.zeroCells39 (k * 65)).toList.length = k * 65 := by simp [madeCells]
  by_cases hj : j < k * 65
  · have h := cellsOf_get (l := List.replicate k zeroR) (i := j / 65) (x := zeroR) (by rw [List.getElem?_replicate, if_pos (by omega)]) (j := j % 65) (Nat.mod_lt _ (by omega))
    rw [show j / 65 * 65 + j % 65 = j by omega] at h
    rw [h, hz]
    have hm : j % 65 < Try.zeroCells39.size := by rw [hs]; exact Nat.mod_lt _ (by omega)
    have e1 : Try.zeroCells39.toList[j % 65]? = some (Try.zeroCells39[j % 65]!) := by
      rw [Array.getElem?_toList, Array.getElem?_eq_getElem hm, getElem!_pos Try.zeroCells39 _ hm]
    rw [e1]
    have e2 : (madeCells Try.zeroCells39 (k * 65)).toList[j]? = some (Try.zeroCells39[j % Try.zeroCells39.size]!) := by
      unfold madeCells
      rw [Array.getElem?_toList, Array.getElem?_map, Array.getElem?_range, if_pos hj]; rfl
    rw [e2, hs]
  · rw [List.getElem?_eq_none (by rw [cellsOf_len, List.length_replicate]; omega), List.getElem?_eq_none (by rw [hlen]; omega)]
theorem make_room (n : Nat) (h : n * 72 ≤ 140737488351232) (w : World) : (Instr.makeSlice 22 (.int .i64 ((n : Int) + 3)) (.int .i64 ((n : Int) + 3))).run Try.prog w = .ok (.slice (some ⟨w.heap.size, 0, none⟩) (n + 3) (n + 3)) (w.alloc (.cells (cellsOf (List.replicate (n + 3) zeroR)).toArray 39)) := by
  obtain ⟨i, hi, hz, hs, hb⟩ := info_parts info39
  have hr := run_make (P := Try.prog) w 22 39 i (.agg Try.zeroCells39) Try.underlying22 hi hz .i64 .i64 ((n : Int) + 3) ((n : Int) + 3) (by omega) (by omega) (by rw [hb]; omega) (by omega)
  have e : ((n : Int) + 3).toNat = n + 3 := by omega
  rw [e, hs] at hr
  rw [hr, cellsOf_replicate]; simp [Value.cells]
/-- A single cell written within a row of results: the code of one. -/
theorem code_set {l : List Res} {i : Nat} {x y : Res} (h : l[i]? = some x) (v : Value) (hy : x.cells.set 64 v = y.cells) : (cellsOf l).toArray.setIfInBounds (i * 65 + 64) v = (cellsOf (l.set i y)).toArray := by
  obtain ⟨hi, e⟩ := List.getElem?_eq_some_iff.1 h
  have hl : (cellsOf (l.take i)).length = i * 65 := by rw [cellsOf_len, List.length_take, Nat.min_eq_left (by omega)]
  have hs := cells_split h
  rw [cellsOf_set h y]
  apply Array.ext'
  rw [Array.toList_setIfInBounds, List.toList_toArray, hs, List.set_append_right _ _ (by omega), hl, Nat.add_sub_cancel_left, List.set_append_left _ _ (by rw [x.len]; omega), hy]
  have hd : (cellsOf (l.take i) ++ (x.cells ++ cellsOf (l.drop (i + 1)))).drop (i * 65 + 65) = cellsOf (l.drop (i + 1)) := by
    rw [← hl, ← List.append_assoc, show (cellsOf (l.take i)).length + 65 = (cellsOf (l.take i) ++ x.cells).length by rw [List.length_append, x.len], List.drop_left]
  rw [hd]
  have ht : (cellsOf (l.take i) ++ (x.cells ++ cellsOf (l.drop (i + 1)))).take (i * 65) = cellsOf (l.take i) := by rw [← hl, List.take_left]
  rw [ht]

set_option maxHeartbeats 1000000 in
set_option maxRecDepth 100000 in
theorem roomy_any (a : Option Addr) (n c : Nat) (l : List Res) (w : World) (hx : RsIn w a n c l) :
    Calls Try.prog 13 #[.slice a n c] w fun e w' => ∃ g, e = .returned (.tuple #[.slice (some ⟨g, 0, none⟩) n (n + 3), .slice (some ⟨g, 0, none⟩) (n + 3) (n + 3)]) ∧ Blk w' g (cellsOf (l ++ tails)).toArray 39 ∧ w.heap.size ≤ g ∧ Keep [] w w' := by
  have hl := hx.hlen
  have hsh := hx.short
  have hmk : ∀ w, (Instr.makeSlice 22 (.int .i64 ((n : Int) + 3)) (.int .i64 ((n : Int) + 3))).run Try.prog w = .ok (.slice (some ⟨w.heap.size, 0, none⟩) (n + 3) (n + 3)) (w.alloc (.cells (cellsOf (List.replicate (n + 3) zeroR)).toArray 39)) := make_room n hsh
  obtain ⟨H, hH⟩ : ∃ H, w.heap.size = H := ⟨_, rfl⟩
  obtain ⟨W, hW⟩ : ∃ W, w.alloc (.cells (cellsOf (List.replicate (n + 3) zeroR)).toArray 39) = W := ⟨_, rfl⟩
  have BW : Blk W H (cellsOf (roomAt l 0)).toArray 39 := by rw [roomAt_zero, hl, ← hW, ← hH]; exact Blk.new w _ 39
  have kW : Keep [H] w W := by rw [← hW]; exact (Keep.refl [H] w).alloc _
  have HL := Lib.hid hl
  have HW := Lib.hid hW
  have HH := Lib.hid hH
  obtain ⟨N, hN, hso⟩ := size39
  have HN := Lib.hid hN
  have s3 : IntKind.i64.wrap ((n : Int) + 3) = (n : Int) + 3 := IntWalk.i64_in _ (by omega)
  clear hW hH hN hl
  go_enter Try.func13, Try.ntmps13
  go_upto_region 2 with (simp only [hmk, HW.out, HH.out])
  go_wp2_with fail
  go_loopw [5] (fun v5 wr => ∃ i : Nat, i ≤ n + 3 ∧ v5 = .int .i64 (i : Nat) ∧ Blk wr H (cellsOf (roomAt l i)).toArray 39 ∧ Keep [] w wr) (fun v5 _ => n + 3 - (intOf v5).toNat)
  case atStart => exact ⟨0, by omega, rfl, BW, kW.mono (fun b hb => Or.inr (by simp only [List.mem_singleton] at hb; rw [hb, ← HH.out]; exact Nat.le_refl _))⟩
  case round =>
    clear BW kW hmk
    obtain ⟨i, hi, rfl, BR, kk⟩ := hrel
    have hHw : ∀ b ∈ [H], w.heap.size ≤ b := fun b hb => by simp only [List.mem_singleton] at hb; rw [hb, ← HH.out]; exact Nat.le_refl _
    by_cases hlt : i < n + 3
    · have hil : i < l.length + 3 := by rw [HL.out]; exact hlt
      have hg := roomAt_get l hil
      have hcell : wr.cell? ⟨H, i * 65 + 64, none⟩ = some (.int .i64 0) := BR.cell (by rw [List.getElem?_toArray, cellsOf_get hg (by omega)]; rfl)
      have hfro : wr.frozen? ⟨H, i * 65 + 64, none⟩ = false := BR.free
      obtain ⟨W1, hW1⟩ : ∃ W1, wr.setCell ⟨H, i * 65 + 64, none⟩ (.int .i64 (-77)) = W1 := ⟨_, rfl⟩
      have B1 : Blk W1 H (cellsOf ((roomAt l i).set i tailR)).toArray 39 := by rw [← hW1, ← code_set hg _ tail_set]; exact BR.set _ _
      have k1 : Keep [H] wr W1 := by rw [← hW1]; exact Keep.set_one wr ⟨H, i * 65 + 64, none⟩ _
      rw [HN.out] at hcell hfro hW1
      have HW1 := Lib.hid hW1
      have i0 : (0 : Int) ≤ i := by omega
      have i1 : (i : Int) < n + 3 := by omega
      clear hW1
      by_cases hin : i < n
      · obtain ⟨x, b, off, ex, rfl, rx0⟩ := hx.at hin
        have rx := rangeAt_keep rx0 (kk.trans k1 (fun b hb => Or.inr (hHw b hb))) (by simp)
        have hr1 : ((roomAt l i).set i tailR)[i]? = some tailR := by
          rw [List.getElem?_set_self (by rw [roomAt_len l (by omega)]; exact hil)]
        have hspl := cells_split hr1
        obtain ⟨tt, hB, hkp⟩ := setCells_row (vs := x.cells) (P := cellsOf (((roomAt l i).set i tailR).take i)) (M := tailR.cells) (S := cellsOf (((roomAt l i).set i tailR).drop (i + 1))) (o := i * 65) B1 hspl (by rw [cellsOf_len, List.length_take, Nat.min_eq_left (by rw [List.length_set, roomAt_len l (by omega)]; omega)]) (by rw [x.len, tailR.len]) x.one
        have hnext : cellsOf (((roomAt l i).set i tailR).take i) ++ (x.cells ++ cellsOf (((roomAt l i).set i tailR).drop (i + 1))) = cellsOf (roomAt l (i + 1)) := by
          rw [cells_put _ (by rw [List.length_set, roomAt_len l (by omega)]; exact hil), List.set_set, ← roomAt_succ l hil (z := x) (by rw [List.getElem?_append_left (by rw [HL.out]; exact hin)]; exact ex)]
        rw [hnext] at hB
        rw [HN.out] at tt hB hkp rx
        have HB := Lib.hid (And.intro hB hkp)
        have HX1 := Lib.hid x.one
        have i2 : (i : Int) < n := by omega
        clear hspl hnext hr1 hg B1 hB hkp BR rx0 ex
        go_upto_region 6 with fail
        rw [HW1.out]
        go_wp2_with (first
          | (refine wpList_load_mid rfl 39 (.tmp 28) rfl b (off + i * N) rfl x.cells _ rx Try.underlying39 rfl (hi39 x) ?_)
          | (refine wpList_store_mid rfl 39 (.tmp 30) (.tmp 29) rfl H (i * N) x.cells.toArray rfl rfl tt (hi39 x) (all_oneCell_toArray HX1.out) ?_)
          | fail)
        exact ⟨⟨i + 1, by omega, by go_num, HB.out.1, (kk.trans k1 (fun b hb => Or.inr (hHw b hb))).trans HB.out.2 (fun b hb => Or.inr (hHw b hb))⟩, by simp [intOf]; omega⟩
      · have hnext : (roomAt l i).set i tailR = roomAt l (i + 1) := (roomAt_succ l hil (by
          rw [List.getElem?_append_right (by rw [HL.out]; omega), HL.out]
          have : i - n = 0 ∨ i - n = 1 ∨ i - n = 2 := by omega
          rcases this with h | h | h <;> rw [h] <;> rfl)).symm
        rw [hnext] at B1
        have i2 : ¬ (i : Int) < n := by omega
        clear hg BR hnext
        go_upto_region 6 with fail
        rw [HW1.out]
        go_wp2_with fail
        exact ⟨⟨i + 1, by omega, by go_num, B1, kk.trans k1 (fun b hb => Or.inr (hHw b hb))⟩, by simp [intOf]; omega⟩
    · obtain rfl : i = n + 3 := by omega
      have hE := roomAt_end l
      rw [HL.out] at hE
      rw [hE] at BR
      have i2 : (n : Int) ≤ n + 3 := by omega
      go_wp2_with fail
      go_returns
      exact ⟨H, rfl, BR, Nat.le_refl _, kk⟩
end Go.Proofs.Ytjdkeabimcajlaa
