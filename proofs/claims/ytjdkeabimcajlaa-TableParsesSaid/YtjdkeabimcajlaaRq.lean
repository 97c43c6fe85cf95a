/- Parse of the document. -/
import Derived.Test.YtjdkeabimcajlaaPa
set_option linter.unusedVariables false
set_option linter.unusedSimpArgs false
namespace Go.Proofs.Ytjdkeabimcajlaa
open Go.RowKit

/-- A result of which the first j bytes of each id are written. -/
def mixL (d : List UInt8) (o j : Nat) : List UInt8 := (List.range 32).map fun k => if k < j then byteAt d (o + k) else 0
theorem mixL_len (d : List UInt8) (o j : Nat) : (mixL d o j).length = 32 := by simp [mixL]
def mixR (d : List UInt8) (o j : Nat) : Res := ⟨mixL d o j, mixL d (o + 32) j, 0, mixL_len _ _ _, mixL_len _ _ _⟩
theorem mixR_zero (d : List UInt8) (o : Nat) : (mixR d o 0).cells.toArray = Try.zeroCells39 := by
  have e : mixR d o 0 = zeroR := by
    rw [Res.eq_iff]
    refine ⟨?_, ?_, rfl⟩ <;> (show mixL _ _ 0 = List.replicate 32 0; simp [mixL]; rfl)
  rw [e]; exact zero_blk
theorem mixL_set {d : List UInt8} {o j : Nat} (hj : j < 32) : (bs (mixL d o j)).set j (B8 (byteAt d (o + j))) = bs (mixL d o (j + 1)) := by
  rw [bs, bs, ← List.map_set]
  congr 1
  apply List.ext_getElem
  · simp [mixL]
  · intro i h1 h2
    simp only [mixL, List.getElem_set, List.getElem_map, List.getElem_range]
    by_cases e : j = i
    · subst e; rw [if_pos rfl, if_pos (by omega)]
    · rw [if_neg e]
      by_cases h : i < j
      · rw [if_pos h, if_pos (by omega)]
      · rw [if_neg h, if_neg (by omega)]
theorem mix_step {d : List UInt8} {o j : Nat} (hj : j < 32) : ((mixR d o j).cells.toArray.setIfInBounds j (B8 (byteAt d (o + j)))).setIfInBounds (32 + j) (B8 (byteAt d (o + 32 + j))) = (mixR d o (j + 1)).cells.toArray := by
  have l1 : (bs (mixL d o j)).length = 32 := by rw [bs_length, mixL_len]
  have l2 : (bs (mixL d o (j + 1))).length = 32 := by rw [bs_length, mixL_len]
  have l3 : (bs (mixL d (o + 32) j)).length = 32 := by rw [bs_length, mixL_len]
  apply Array.ext'
  rw [Array.toList_setIfInBounds, Array.toList_setIfInBounds]
  show ((bs (mixL d o j) ++ (bs (mixL d (o + 32) j) ++ [_])).set j _).set (32 + j) _ = bs (mixL d o (j + 1)) ++ (bs (mixL d (o + 32) (j + 1)) ++ [_])
  rw [List.set_append_left _ _ (by omega), mixL_set hj, List.set_append_right _ _ (by omega), l2, Nat.add_sub_cancel_left, List.set_append_left _ _ (by omega), mixL_set hj]
  rfl
theorem mix_cell1 {d : List UInt8} {o j : Nat} (hj : j < 32) : ∃ v, (mixR d o j).cells.toArray[j]? = some v ∧ v.oneCell' = true := by
  have h : j < (mixR d o j).cells.length := by rw [Res.len]; omega
  exact ⟨_, by rw [List.getElem?_toArray]; exact List.getElem?_eq_getElem h, Res.one _ _ (List.getElem_mem h)⟩
theorem mix_end {d : List UInt8} {o : Nat} : (mixR d o 32).cells.set 64 (.int .i64 ((byteAt d (o + 64)).toNat : Nat)) = (resAt d o).cells := by
  have e1 : mixL d o 32 = (resAt d o).act := by
    show _ = List.map _ _
    apply List.map_congr_left
    intro k hk
    rw [if_pos (List.mem_range.1 hk)]
  have e2 : mixL d (o + 32) 32 = (resAt d o).root := by
    show _ = List.map _ _
    apply List.map_congr_left
    intro k hk
    rw [if_pos (List.mem_range.1 hk)]
  have h : (bs (resAt d o).act).length = 32 := by rw [bs_length, (resAt d o).la]
  have h2 : (bs (resAt d o).root).length = 32 := by rw [bs_length, (resAt d o).lr]
  unfold Res.cells
  show (bs (mixL d o 32) ++ (bs (mixL d (o + 32) 32) ++ [_])).set 64 _ = _
  rw [e1, e2, List.set_append_right _ _ (by omega), h, List.set_append_right _ _ (by omega), h2]
  rfl
theorem rd_byteAt {w : World} {b off : Nat} {d : List UInt8} (h : Rd w (some ⟨b, off, none⟩) (bs d)) {i : Nat} (hi : i < d.length) : w.cell? ⟨b, off + i, none⟩ = some (.int .u8 ((byteAt d i).toNat : Nat)) := by
  obtain ⟨b', off', e, hc⟩ := h.byte hi
  obtain ⟨rfl, rfl⟩ : b = b' ∧ off = off' := by simpa using e
  rw [hc]
  simp [byteAt, List.getD_eq_getElem?_getD, List.getElem?_eq_getElem hi]

/-- What holds ahead of the k-th result. -/
def RqI (w : World) (d : List UInt8) (h : Nat) (v4 v5 : Value) (wr : World) : Prop :=
  ∃ (k o : Nat) (ao : Option Addr) (co : Nat), k ≤ h ∧ Hid (o = 1 + 65 * k) ∧ v4 = .slice ao k co ∧ v5 = .int .i64 (o : Nat) ∧ Sl wr 39 65 (.slice ao k co) k (cellsOf (rowsOf d k)) ∧ Fr w [] (blks (.slice ao k co)) ∧ Keep [] w wr

set_option maxHeartbeats 4000000 in
set_option maxRecDepth 100000 in
theorem refParse_any (a : Option Addr) (n c : Nat) (d : List UInt8) (w : World) (hl : d.length = n) (hc : a = none → c = 0) (hrd : Rd w a (bs d)) (hnc : n ≤ c) (hn : n ≤ 140737488355328) :
    Calls Try.prog 33 #[.slice a n c] w (Give w (parT d) (parC d)) := by
  have HT := Lib.hid (par_tab d)
  have HL := Lib.hid hl
  by_cases h0 : n = 0
  · subst h0
    obtain ⟨g1, g2⟩ := par_no (d := d) (by rw [par_tab, tabO, hl]; simp)
    have HG := Lib.hid (And.intro g1 g2)
    clear g1 g2 hl
    go_enter Try.func33, Try.ntmps33
    go_wp2_with fail
    go_returns
    rw [HG.out.1, HG.out.2]
    exact Give.nil (Keep.refl _ _)
  obtain ⟨b, off, rfl, -⟩ := hrd.byte (k := 0) (by omega)
  have c0 := rd_byteAt hrd (i := 0) (by omega)
  obtain ⟨h, hh⟩ : ∃ h, (byteAt d 0).toNat = h := ⟨_, rfl⟩
  have hhd : headN d = h := hh
  have h256 : h < 256 := by rw [← hh]; exact (byteAt d 0).toNat_lt
  rw [hh, Nat.add_zero] at c0
  have HD := Lib.hid hhd
  have q0 : ((n : Int) == 0) = false := by simp; omega
  have q00 : ¬ (n : Int) = 0 := by omega
  have i00 : (0 : Int) < n := by omega
  have HRD := Lib.hid hrd
  clear hh hhd hl hrd
  by_cases h1 : 32 < h
  · obtain ⟨g1, g2⟩ := par_no (d := d) (by rw [par_tab, tabO, HD.out]; exact if_neg (fun h => by omega))
    have HG := Lib.hid (And.intro g1 g2)
    have i1 : (32 : Int) < h := by omega
    clear g1 g2
    go_enter Try.func33, Try.ntmps33
    go_wp2_with fail
    go_returns
    rw [HG.out.1, HG.out.2]
    exact Give.nil (Keep.refl _ _)
  have i1 : ¬ (32 : Int) < h := by omega
  by_cases h2 : ¬ n = 1 + 65 * h
  · obtain ⟨g1, g2⟩ := par_no (d := d) (by rw [par_tab, tabO, HD.out, HL.out]; exact if_neg (fun h => h2 h.2.2.1))
    have HG := Lib.hid (And.intro g1 g2)
    have i2 : ((n : Int) != 1 + 65 * (h : Int)) = true := by simp; omega
    clear g1 g2
    go_enter Try.func33, Try.ntmps33
    go_wp2_with fail
    go_returns
    rw [HG.out.1, HG.out.2]
    exact Give.nil (Keep.refl _ _)
  have hnh : n = 1 + 65 * h := Classical.not_not.1 h2
  have i2 : ((n : Int) != 1 + 65 * (h : Int)) = false := by simp; omega
  have HNH := Lib.hid hnh
  clear h2 hnh
  go_enter Try.func33, Try.ntmps33
  go_upto_region 5 with fail
  go_loopw [4, 5, 6, 7] (fun v4 v5 _ _ wr => RqI w d h v4 v5 wr) (fun _ v5 _ _ _ => n + 65 - (intOf v5).toNat)
  case atStart => exact ⟨0, 1, none, 0, by omega, Lib.hid rfl, rfl, rfl, Sl.nil _ _ _, by intro b hb; simp [blks, Value.ownBlock] at hb, Keep.refl _ _⟩
  case round =>
    obtain ⟨k, o, ao, co, hk, HO, rfl, rfl, sO, fO, kk⟩ := hrel
    have ho := HO.out
    have hnh := HNH.out
    by_cases hlt : k < h
    · have i3 : (o : Int) < n := by omega
      have i4 : (0 : Int) ≤ o := by omega
      have ho65 : o + 65 ≤ n := by omega
      clear ho hnh
      go_upto_region 8 with fail
      have BZ : Blk (wr.alloc (.cells Try.zeroCells39 39)) wr.heap.size Try.zeroCells39 39 := Blk.new _ _ _
      have kz : Keep [] wr (wr.alloc (.cells Try.zeroCells39 39)) := (Keep.refl [] wr).alloc _
      obtain ⟨wz, hwz⟩ : ∃ W, wr.alloc (.cells Try.zeroCells39 39) = W := ⟨_, rfl⟩
      obtain ⟨p, hp⟩ : ∃ P, wr.heap.size = P := ⟨_, rfl⟩
      have hpO : ∀ b ∈ blks (.slice ao k co), b ≠ p := fun b hb => by have := sO.lt b hb; omega
      have hpw0 : w.heap.size ≤ p := by have := kk.size; omega
      rw [hwz] at BZ kz ⊢
      rw [hp] at BZ ⊢
      rw [← mixR_zero d o] at BZ
      have sOz := sO.keep kz (by simp)
      have kkz := kk.trans' kz
      clear hwz hp kz sO kk
      go_upto_region 9 with fail
      go_loopw [7] (fun v7 wr => ∃ j, j ≤ 32 ∧ v7 = .int .i64 (j : Nat) ∧ Blk wr p (mixR d o j).cells.toArray 39 ∧ Keep [p] wz wr) (fun v7 _ => 32 - (intOf v7).toNat)
      case atStart => exact ⟨0, by omega, rfl, BZ, Keep.refl _ _⟩
      case round =>
        clear BZ
        obtain ⟨j, hj, rfl, BJ, kj⟩ := hrel
        by_cases hjt : j < 32
        · have j1 : (j : Int) < 32 := by omega
          have j0 : (0 : Int) ≤ j := by omega
          have kwj : Keep [] w wr := kkz.trans kj (fun b hb => by simp only [List.mem_singleton] at hb; subst hb; exact Or.inr hpw0)
          have cA := rd_byteAt (HRD.out.keep kwj (by simp)) (i := o + j) (by rw [HL.out]; omega)
          obtain ⟨u1, hu1, hu1c⟩ := mix_cell1 (d := d) (o := o) hjt
          have e1 : ((o : Int) + j).toNat = o + j := by omega
          have e2 : ((o : Int) + 32 + j).toNat = o + 32 + j := by omega
          have b1 : (o : Int) + j < n := by omega
          have b2 : (o : Int) + 32 + j < n := by omega
          have b3 : 0 ≤ (o : Int) + j := by omega
          have b4 : 0 ≤ (o : Int) + 32 + j := by omega
          have c1 : wr.cell? ⟨p, j, none⟩ = some u1 := BJ.cell hu1
          have f1 : wr.frozen? ⟨p, j, none⟩ = false := BJ.free
          obtain ⟨y1, hy1⟩ : ∃ y, (byteAt d (o + j)).toNat = y := ⟨_, rfl⟩
          have HY1 := Lib.hid (show B8 (byteAt d (o + j)) = .int .u8 (y1 : Nat) by rw [← hy1])
          rw [hy1] at cA
          clear hu1 hy1
          go_upto_region 12 with fail
          have BA := BJ.set j (.int .u8 (y1 : Nat))
          have kA : Keep [p] wr (wr.setCell ⟨p, j, none⟩ (.int .u8 (y1 : Nat))) := Keep.set_one wr ⟨p, j, none⟩ _
          obtain ⟨wA, hwA⟩ : ∃ W, wr.setCell ⟨p, j, none⟩ (.int .u8 (y1 : Nat)) = W := ⟨_, rfl⟩
          rw [hwA] at BA kA ⊢
          have kwA : Keep [] w wA := kwj.trans kA (fun b hb => by simp only [List.mem_singleton] at hb; subst hb; exact Or.inr hpw0)
          have cB := rd_byteAt (HRD.out.keep kwA (by simp)) (i := o + 32 + j) (by rw [HL.out]; omega)
          have h65 : 32 + j < ((mixR d o j).cells.toArray.setIfInBounds j (.int .u8 (y1 : Nat))).size := by rw [Array.size_setIfInBounds, List.size_toArray, Res.len]; omega
          have c2 : wA.cell? ⟨p, 32 + j, none⟩ = some _ := BA.cell (Array.getElem?_eq_getElem h65)
          have f2 : wA.frozen? ⟨p, 32 + j, none⟩ = false := BA.free
          obtain ⟨u2, hu2⟩ : ∃ u, ((mixR d o j).cells.toArray.setIfInBounds j (.int .u8 (y1 : Nat)))[32 + j] = u := ⟨_, rfl⟩
          rw [hu2] at c2
          obtain ⟨y2, hy2⟩ : ∃ y, (byteAt d (o + 32 + j)).toNat = y := ⟨_, rfl⟩
          have HY2 := Lib.hid (show B8 (byteAt d (o + 32 + j)) = .int .u8 (y2 : Nat) by rw [← hy2])
          rw [hy2] at cB
          clear hu2 hy2 hwA c1 f1 cA
          go_wp2_with fail
          have BB := BA.set (32 + j) (.int .u8 (y2 : Nat))
          have kB : Keep [p] wz (wA.setCell ⟨p, 32 + j, none⟩ (.int .u8 (y2 : Nat))) := (kj.trans kA (by simp)).set (Or.inl (by simp)) _
          rw [← HY1.out, ← HY2.out, mix_step hjt] at BB
          rw [HY2.out] at BB
          exact ⟨⟨j + 1, by omega, by go_num, BB, kB⟩, by simp [intOf]; omega⟩
        · obtain rfl : j = 32 := by omega
          have kwj : Keep [] w wr := kkz.trans kj (fun b hb => by simp only [List.mem_singleton] at hb; subst hb; exact Or.inr hpw0)
          have cA := rd_byteAt (HRD.out.keep kwj (by simp)) (i := o + 64) (by rw [HL.out]; omega)
          have e1 : ((o : Int) + 64).toNat = o + 64 := by omega
          have b1 : (o : Int) + 64 < n := by omega
          have b3 : 0 ≤ (o : Int) + 64 := by omega
          have c1 : wr.cell? ⟨p, 64, none⟩ = some (.int .i64 0) := BJ.cell (by rw [List.getElem?_toArray]; exact (mixR d o 32).code_at)
          have f1 : wr.frozen? ⟨p, 64, none⟩ = false := BJ.free
          obtain ⟨y1, hy1⟩ : ∃ y, (byteAt d (o + 64)).toNat = y := ⟨_, rfl⟩
          have hy256 : y1 < 256 := by rw [← hy1]; exact (byteAt d (o + 64)).toNat_lt
          rw [hy1] at cA
          have HY1 := Lib.hid hy1
          obtain ⟨x, hx⟩ : ∃ x, resAt d o = x := ⟨_, rfl⟩
          have HX := Lib.hid hx
          clear hy1 hx
          go_upto_region 14 with fail
          have BA := BJ.set 64 (.int .i64 (y1 : Nat))
          have kA : Keep [p] wz (wr.setCell ⟨p, 64, none⟩ (.int .i64 (y1 : Nat))) := kj.set (Or.inl (by simp)) _
          have hset : (mixR d o 32).cells.toArray.setIfInBounds 64 (.int .i64 (y1 : Nat)) = x.cells.toArray := by
            rw [← HX.out, ← mix_end, HY1.out]; apply Array.ext'; rw [Array.toList_setIfInBounds]
          rw [hset] at BA
          obtain ⟨w8, hw8⟩ : ∃ W, wr.setCell ⟨p, 64, none⟩ (.int .i64 (y1 : Nat)) = W := ⟨_, rfl⟩
          rw [hw8] at BA kA ⊢
          have sO8 := sOz.keep kA (fun b hb => by simp only [List.mem_singleton]; exact hpO b hb)
          have kk8 : Keep [] w w8 := kkz.trans kA (fun b hb => by simp only [List.mem_singleton] at hb; subst hb; exact Or.inr hpw0)
          clear hset hw8 c1 f1 cA BJ kj kwj sOz kkz
          obtain ⟨q8, hq8⟩ : ∃ q, w8.heap.size = q := ⟨_, rfl⟩
          obtain ⟨w9, hw9⟩ : ∃ W, w8.alloc (.cells x.cells.toArray 39) = W := ⟨_, rfl⟩
          have hab := after_build (x := x) sO8
          rw [hw9, hq8] at hab
          have HW9 := Lib.hid hw9
          have HQ8 := Lib.hid hq8
          clear hw9 hq8
          go_upto_region 6 with (first
            | (refine wpList_load_mid rfl 39 (.tmp 6) rfl p 0 rfl x.cells _ (rangeAt_of_blk BA) Try.underlying39 rfl (hi39 x) ?_)
            | (refine wpList_build1 rfl 22 39 (.tmp 67) rfl x.cells.toArray rfl (.agg Try.zeroCells39) 65 72 Try.underlying22 info39 (by simp [x.len]) (by omega) (by omega) ?_; rw [HW9.out, HQ8.out])
            | (at_builtin; go_must (refine wpList_appendN rfl (.tmp 66) (.tmp 68) 22 rfl 39 (.agg Try.zeroCells39) 65 72 Try.underlying22 info39 zero39 (by omega) (.slice ao k co) k (cellsOf (rowsOf d k)) rfl hab.1 (some ⟨q8, 0, none⟩) 1 1 x.cells rfl (res_len1 x) (by simp) hab.2.1 x.one (by simp only [maxLen]; omega) (by omega) ?_; intro a6 c6 w10 hs6 hk6 hf6))
            | fail)
          have hs7 : Sl w10 39 65 (.slice a6 (k + 1) c6) (k + 1) (cellsOf (rowsOf d (k + 1))) := by
            rw [rowsOf_succ, cellsOf_append, cellsOf_one, ← HO.out, HX.out]; exact hs6
          have f7 : Fr w [] (blks (.slice a6 (k + 1) c6)) := fO.trans hf6 (kk8.trans' hab.2.2).size
          have kk10 : Keep [] w w10 := (kk8.trans' hab.2.2).trans hk6 (fun b hb => by rcases fO b hb with h | h; cases h; exact Or.inr h)
          clear hs6 hk6 hf6 hab BA sO8 HRD
          go_wp2_with fail
          exact ⟨⟨k + 1, o + 65, a6, c6, by omega, Lib.hid (by rw [HO.out]; omega), rfl, by go_num, hs7, f7, kk10⟩, by simp [intOf]; omega⟩
    · obtain rfl : k = h := by omega
      have i3 : ¬ (o : Int) < n := by omega
      obtain ⟨v, hv⟩ : ∃ v, validR (rowsOf d k) = v := ⟨_, rfl⟩
      have HV := Lib.hid (fun a n c W h => by have := refValid_any a n c (rowsOf d k) W h; rwa [hv] at this : ∀ a n c W, RsIn W a n c (rowsOf d k) → Calls Try.prog 18 #[.slice a n c] W fun e w' => e = .returned (.bool v) ∧ Keep [] W w')
      have k32 : k ≤ 32 := by omega
      clear hnh ho
      have hrs := RsIn.of_sl sO (rowsOf_len d k) (by omega)
      cases v with
      | true =>
        obtain ⟨g1, g2⟩ := par_yes (d := d) (l := rowsOf d k) (by rw [par_tab, tabO, HD.out, HL.out]; exact if_pos ⟨by omega, by omega, HNH.out, hv⟩)
        have HG := Lib.hid (And.intro g1 g2)
        clear g1 g2 hv
        go_wp2_with (first
          | (go_at_call 18; refine (HV.out _ _ _ _ hrs).mono ?_; rintro e w4 ⟨rfl, k4⟩)
          | fail)
        go_returns
        rw [HG.out.1, HG.out.2]
        have s5 := sO.keep k4 (by simp)
        have e1 := rowsOf_len d k
        refine ⟨ao, co, by rw [e1]; rfl, by rw [e1]; exact s5, by rw [e1]; exact fO, kk.trans' k4⟩
      | false =>
        obtain ⟨g1, g2⟩ := par_no (d := d) (by rw [par_tab, tabO, HD.out, HL.out]; exact if_neg (fun h => by rw [hv] at h; cases h.2.2.2))
        have HG := Lib.hid (And.intro g1 g2)
        clear g1 g2 hv
        go_wp2_with (first
          | (go_at_call 18; refine (HV.out _ _ _ _ hrs).mono ?_; rintro e w4 ⟨rfl, k4⟩)
          | fail)
        go_returns
        rw [HG.out.1, HG.out.2]
        exact Give.nil (kk.trans' k4)
end Go.Proofs.Ytjdkeabimcajlaa
