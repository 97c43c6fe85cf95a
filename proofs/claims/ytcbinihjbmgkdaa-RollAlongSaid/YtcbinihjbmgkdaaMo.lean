/- The laws RollMoves and RollAfresh: their walks. -/
import Derived.Test.YtcbinihjbmgkdaaG
set_option linter.unusedVariables false
set_option linter.unusedSimpArgs false
namespace Go.Proofs.Ytcbinihjbmgkdaa
open Go.RowKit

/-- The Roll, the row of all bytes, the frame. -/
structure MSt (W : World) (r g ga : Nat) (win : List UInt8) (all : List Value) (w : World) : Prop where
  roll : RollAt w r g win
  blk : Blk w ga all.toArray 5
  keep : Keep [] W w
theorem MSt.step {W w w' : World} {r g ga : Nat} {win : List UInt8} {all : List Value} (h : MSt W r g ga win all w) (k : Keep [] w w') : MSt W r g ga win all w' :=
  ⟨h.roll.keep k (by simp) (by simp), h.blk.keep k (by simp), h.keep.trans' k⟩
theorem MSt.drewN {W w : World} {r g ga : Nat} {win : List UInt8} {all : List Value} (h : MSt W r g ga win all w) (n : Nat) : MSt W r g ga win all (w.drewN n) := h.step ((Keep.refl _ _).drewN)

/-- A window of a row, read. -/
theorem window_rd {w : World} {ga k n : Nat} {zs : List UInt8} {cur : List Value} (hb : Blk w ga (bs zs ++ cur).toArray 5) (hk : k + n ≤ zs.length) : Rd w (some ⟨ga, k, none⟩) (bs ((zs.drop k).take n)) := by
  refine Rd.of_blk hb k (fun j v hv => ?_)
  obtain ⟨hj, hv2⟩ := List.getElem?_eq_some_iff.1 hv
  have hj2 : j < n := by simp only [bs_length, List.length_take] at hj; omega
  rw [← hv2, bs_app_get zs cur (k + j) (by omega)]
  simp only [bs, List.getElem_map, List.getElem_take, List.getElem_drop]

set_option maxHeartbeats 1000000 in
set_option maxRecDepth 100000 in
theorem rollMoves_walk (a : Option Addr) (n cap : Nat) (xs : List UInt8) (a' : Option Addr) (n' cap' : Nat) (ys : List UInt8) (W : World) (h : InBytes W a n cap xs) (h' : InBytes W a' n' cap' ys) :
    Calls Try.prog 4 #[.slice a n cap, .slice a' n' cap'] W fun e w' => e = .returned (.bool true) ∧ Keep [] W w' := by
  have hle := h.hle
  have hreach := h.reach
  have hle' := h'.hle
  have hreach' := h'.reach
  have HL := Lib.hid h.hlen
  have HL' := Lib.hid h'.hlen
  by_cases hbig : 100000 < n
  · have d1 : decide ((100000 : Int) < n) = true := decide_eq_true (by omega)
    go_enter Try.func4, Try.ntmps4
    go_wp2
    go_returns
    exact ⟨rfl, Keep.refl _ _⟩
  by_cases hbig' : 3000 < n'
  · have d1 : decide ((100000 : Int) < n) = false := decide_eq_false (by omega)
    have d2 : decide ((3000 : Int) < n') = true := decide_eq_true (by omega)
    go_enter Try.func4, Try.ntmps4
    go_wp2
    go_returns
    exact ⟨rfl, Keep.refl _ _⟩
  have d1 : decide ((100000 : Int) < n) = false := decide_eq_false (by omega)
  have d2 : decide ((3000 : Int) < n') = false := decide_eq_false (by omega)
  have hprod : n' * n ≤ 3000 * 100000 := Nat.mul_le_mul (by omega) (by omega)
  have q1 : IntKind.i64.wrap ((n' : Int) * n) = ((n' * n : Nat) : Int) := by rw [← Int.natCast_mul]; exact IntWalk.i64_in _ (by omega)
  have q2 : wrap64 ((n' : Int) * n) = ((n' * n : Nat) : Int) := by rw [← Int.natCast_mul]; exact IntWalk.wrap64_in _ (by omega)
  generalize n' * n = pr at *
  by_cases hwork : 3000000 < pr
  · have d3 : decide ((3000000 : Int) < pr) = true := decide_eq_true (by omega)
    go_enter Try.func4, Try.ntmps4
    go_wp2
    go_returns
    exact ⟨rfl, Keep.refl _ _⟩
  have d3 : decide ((3000000 : Int) < pr) = false := decide_eq_false (by omega)
  go_enter Try.func4, Try.ntmps4
  go_wp2_with fail
  refine (begun_any a n cap xs W h).mono ?_
  rintro e w1 ⟨hk1, hcase⟩
  rcases hcase with ⟨hg1, hg2, r, g, rfl, hroll, hr, hg⟩ | ⟨hbad, rfl⟩
  · have hi1 := h.keep hk1 (by simp)
    have hi1' := h'.keep hk1 (by simp)
    have h0 : (w1.alloc (.cells #[] 5)).ownsRow w1.heap.size 5 1 (.slice (some ⟨w1.heap.size, 0, none⟩) 0 0) 0 [] := World.ownsRow_made w1 #[] 0 (Nat.le_refl _) (by simp) rfl
    have C1 : Hid ((bs xs).length = n) := by show _ = _; rw [bs_length]; exact HL.out
    have C2 : Hid ((bs ys).length = n') := by show _ = _; rw [bs_length]; exact HL'.out
    have O1 : Hid (∀ v ∈ bs xs, v.oneCell' = true) := bs_one xs
    have O2 : Hid (∀ v ∈ bs ys, v.oneCell' = true) := bs_one ys
    have A1 := Lib.hid (hi1.rd.keep (w' := w1.alloc (.cells #[] 5)) (S := []) ((Keep.refl _ _).alloc _) (by simp))
    have A2 := Lib.hid (hi1'.rd.keep (w' := w1.alloc (.cells #[] 5)) (S := []) ((Keep.refl _ _).alloc _) (by simp))
    have F2 := Lib.hid (hi1'.far (d := w1.heap.size) (Nat.le_refl _))
    go_upto_region 7 with (first
      | (refine wpList_appendB rfl (.tmp 41) (.tmp 42) 23 rfl w1.heap.size 5 (.int .u8 0) 1 Try.underlying23 Try.info5 rfl (.slice (some ⟨w1.heap.size, 0, none⟩) 0 0) 0 [] rfl h0 a n cap (bs xs) rfl C1.out h.hnil A1.out O1.out (by simp only [maxLen]; omega) (by omega) (by simp) ?_; intro v2 w2 hown2 hgrow2 hnil2; have hk2 := Keep.of_grown (S := [w1.heap.size]) hgrow2 (by intro k hk; simp [Value.ownBlock] at hk; simp; omega); have A3 := Lib.hid (A2.out.keep hk2 (by intro e; have := F2.out (by rintro rfl; simp at e); simpa using this)))
      | (refine wpList_appendB rfl (.tmp 43) (.tmp 44) 23 rfl w1.heap.size 5 (.int .u8 0) 1 Try.underlying23 Try.info5 rfl v2 (0 + n) ([] ++ bs xs) rfl hown2 a' n' cap' (bs ys) rfl C2.out h'.hnil A3.out O2.out (by simp only [maxLen]; omega) (by omega) (by have := hk2.size; simp at this; omega) ?_; intro v3 w3 hown3 hgrow3 hnil3))
    have hk3 : Keep [] w1 w3 := (((Keep.refl [] w1).alloc _).trans hk2 (by simp)).trans (Keep.of_grown (S := (Value.ownBlock v2).toList) hgrow3 (by intro k hk; simp [hk])) (by
      intro b hb; right; simp at hb; exact (hown2.lt b hb).1)
    obtain ⟨ga, capA, cur, rfl, hga, hAll, hcapA⟩ : ∃ ga capA cur, v3 = .slice (some ⟨ga, 0, none⟩) (n + n') capA ∧ w1.heap.size ≤ ga ∧ Blk w3 ga (bs (xs ++ ys) ++ cur).toArray 5 ∧ capA = n + n' + cur.length := by
      have hl := owns_len hown3
      rcases owns_cases hown3 with ⟨_, hx⟩ | ⟨g, cap, cur, e, hb, hbl, hc, hm⟩
      · exfalso; rw [hx] at hl; simp at hl; omega
      · refine ⟨g, cap, cur, ?_, hb, ?_, ?_⟩
        · rw [e, hl]; simp
        · simpa [bs] using hbl
        · rw [hc, hl]; omega
    have hroll3 := hroll.keep hk3 (by simp) (by simp)
    have hkW3 := hk1.trans' hk3
    have hrg : r < w1.heap.size ∧ g < w1.heap.size := by
      obtain ⟨_, _, _, _, _, _, _, _, hx, hy⟩ := hroll.ex
      exact ⟨hx.lt, hy.lt⟩
    obtain ⟨hrlt, hglt⟩ := hrg
    have HC := Lib.hid hcapA
    have HX : Hid ((xs ++ ys).length = n + n') := by show _ = _; rw [List.length_append, HL.out, HL'.out]
    have hcap2 : n + n' ≤ capA := by omega
    have hcap3 : capA ≤ 9223372036854775807 := by
      rcases owns_cases hown3 with ⟨h1, _⟩ | ⟨g, cap, cur, e, hb, hbl, hc, hm⟩
      · cases h1
      · simp only [Value.slice.injEq] at e; rw [e.2.2]; simpa [maxLen] using hm
    clear hcapA hown2 hown3 hgrow2 hgrow3 hk2 h0 A1 A2 A3 F2 C1 C2 O1 O2 hnil2 hnil3 hi1 hi1' q1 q2
    go_wp2
    go_loopw [9] (fun i wr => ∃ k : Nat, k ≤ n' + 1 ∧ i = .int .i64 k ∧ Keep [] W wr ∧ Blk wr ga (bs (xs ++ ys) ++ cur).toArray 5 ∧ (k ≤ n' → RollAt wr r g (((xs ++ ys).drop k).take n))) (fun i _ => n' + 1 - (intOf i).toNat)
    case atStart => exact ⟨0, by omega, rfl, hkW3, hAll, fun _ => by rw [List.drop_zero, List.take_append_of_le_length (by rw [HL.out]; exact Nat.le_refl _), List.take_of_length_le (by rw [HL.out]; exact Nat.le_refl _)]; exact hroll3⟩
    case round =>
      obtain ⟨k, hkk, rfl, hkp, hA, hR⟩ := hrel
      clear hroll hroll3 hAll hk1 hk3 hkW3
      by_cases hlt : k ≤ n'
      · have hRk := hR hlt
        clear hR
        have HW : Hid ((((xs ++ ys).drop k).take n).length = n) := by show _ = _; simp only [List.length_take, List.length_drop, HX.out]; omega
        have d5 : decide ((k : Int) ≤ n') = true := decide_eq_true (by omega)
        have z1 : 0 ≤ (k : Int) + n := by omega
        have z2 : (k : Int) + n ≤ capA := by omega
        have z3 : IntKind.i64.wrap ((k : Int) + n) = (k : Int) + n := IntWalk.i64_in _ (by omega)
        have z4 : ((k : Int) + n).toNat = k + n := by omega
        have z5 : ¬ capA = k := by omega
        have z6 : (k : Int) ≤ (k : Int) + n := by omega
        have z7 : k + n - k = n := by omega
        have HK : Hid (k + n ≤ (xs ++ ys).length) := by show _ ≤ _; rw [HX.out]; omega
        have hS0 : MSt W r g ga (((xs ++ ys).drop k).take n) (bs (xs ++ ys) ++ cur) wr.drew := ⟨hRk.keep (S := []) (Keep.refl _ _).drew (by simp) (by simp), hA, hkp.drew⟩
        have HV : Hid (∀ w', Blk w' ga (bs (xs ++ ys) ++ cur).toArray 5 → Rd w' (some ⟨ga, k, none⟩) (bs (((xs ++ ys).drop k).take n))) := fun w' hb => window_rd hb HK.out
        obtain ⟨win, hwin⟩ : ∃ win, ((xs ++ ys).drop k).take n = win := ⟨_, rfl⟩
        rw [hwin] at hS0 HV HW
        have HWin := Lib.hid hwin
        clear hRk hA hkp hwin
        go_wp2_with fail
        go_region_held3 (fun _ => True) (trivial) ((first
            | (go_at_call 17; go_must (refine (sumRoll_any r g win _ hS0.roll).mono ?_); go_must (rintro e w2 ⟨rfl, hk2⟩; replace hS0 := hS0.step hk2; clear hk2))
            | (go_at_call 13; go_must (refine (refSum_n (some ⟨ga, k, none⟩) n _ win _ HW.out (by omega) (HV.out _ hS0.blk)).mono ?_); go_must (rintro e w2 ⟨rfl, hk2⟩; replace hS0 := hS0.step hk2; clear hk2))))
        go_wp2_with fail
        have hwx := hS0.roll
        by_cases hlt3 : k < n'
        · have d6 : decide ((k : Int) < n') = true := decide_eq_true (by omega)
          have hxl := HX.out
          have e1 : win = (xs ++ ys)[k] :: (((xs ++ ys).drop (k + 1)).take (n - 1)) := by
            rw [← HWin.out, List.drop_eq_getElem_cons (by omega)]
            obtain ⟨m, rfl⟩ : ∃ m, n = m + 1 := ⟨n - 1, by omega⟩
            rfl
          have e2 : (((xs ++ ys).drop (k + 1)).take n) = (((xs ++ ys).drop (k + 1)).take (n - 1)) ++ [ys[k]'(by rw [HL'.out]; exact hlt3)] := by
            obtain ⟨m, rfl⟩ : ∃ m, n = m + 1 := ⟨n - 1, by omega⟩
            rw [List.take_succ_eq_append_getElem (by simp only [List.length_drop]; omega)]
            simp only [Nat.add_sub_cancel, List.getElem_drop]
            congr 2
            rw [List.getElem_append_right (by rw [HL.out]; omega)]
            congr 1
            rw [HL.out]; omega
          obtain ⟨b', off', rfl, hcy⟩ := (h'.keep hS0.keep (by simp)).rd.byte (k := k) (by rw [HL'.out]; exact hlt3)
          have hca : w2.cell? ⟨ga, k, none⟩ = some (B8 (xs ++ ys)[k]) := hS0.blk.cell (by simpa using bs_app_get (xs ++ ys) cur k (by omega))
          have hcy0 := h'.rd.byte (k := k) (by rw [HL'.out]; exact hlt3)
          have hb'lt : b' < W.heap.size := by
            obtain ⟨b3, o3, e3, h3⟩ := hcy0
            cases e3
            exact World.block_lt_of_cell? W (a := ⟨b', off' + k, none⟩) h3
          have nb1 : b' ∉ [r, g] := by simp; omega
          have nb2 : ga ∉ [r, g] := by simp; omega
          generalize (xs ++ ys)[k] = x at *
          generalize ys[k]'(by rw [HL'.out]; exact hlt3) = y at *
          generalize (((xs ++ ys).drop (k + 1)).take (n - 1)) = rest at *
          have E2 := Lib.hid e2
          have z8 : (k : Int) < (n : Int) + n' := by omega
          rw [e1] at hwx
          have hS1 := hS0
          clear e1 e2 hcy0 hxl HWin HV HW
          go_region_held3 (fun w' => w'.cell? ⟨b', off' + k, none⟩ = some (B8 y) ∧ w'.cell? ⟨ga, k, none⟩ = some (B8 x)) ((first | (constructor <;> assumption) | go_simp))
            ((go_at_call 18; go_must (refine (pushRoll_any r g x rest y _ (hwx.keep (S := []) (Keep.refl _ _).drew (by simp) (by simp))).mono ?_); go_must (rintro e w3 ⟨rfl, hroll3, hk3⟩; have hcy2 := hk3.cell (v := B8 y) (a := ⟨b', off' + k, none⟩) hcy nb1; have hca2 := hk3.cell (v := B8 x) (a := ⟨ga, k, none⟩) hca nb2)))
          have hkW : Keep [] W w3 := (hS1.keep.drew).trans hk3 (by simp; omega)
          have hbl3 : Blk w3 ga (bs (xs ++ ys) ++ cur).toArray 5 := (Blk.drew hS1.blk).keep hk3 nb2
          go_wp2
          exact ⟨⟨k + 1, by omega, by go_num, hkW, hbl3, fun _ => by rw [E2.out]; exact hroll3⟩, by simp [intOf]; omega⟩
        · have d6 : decide ((k : Int) < n') = false := decide_eq_false (by omega)
          have hS1 := hS0
          go_quiet (fail)
          go_wp2
          exact ⟨⟨k + 1, by omega, by go_num, hS1.keep.drewN, hS1.blk.drewN, fun h => by omega⟩, by simp [intOf]; omega⟩
      · have d5 : decide ((k : Int) ≤ n') = false := decide_eq_false (by omega)
        go_wp2_with fail
        refine (known_any wr).mono ?_
        rintro e w5 ⟨rfl, hk5⟩
        go_wp2
        go_returns
        exact ⟨rfl, hkp.trans' hk5⟩
  · go_wp2_with fail
    refine (known_any w1).mono ?_
    rintro e w5 ⟨rfl, hk5⟩
    go_wp2
    go_returns
    exact ⟨rfl, hk1.trans' hk5⟩
end Go.Proofs.Ytcbinihjbmgkdaa
