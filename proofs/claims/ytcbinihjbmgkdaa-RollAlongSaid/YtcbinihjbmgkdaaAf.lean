/- The law RollAfresh: its walk. -/
import Derived.Test.YtcbinihjbmgkdaaMo
set_option linter.unusedVariables false
set_option linter.unusedSimpArgs false
namespace Go.Proofs.Ytcbinihjbmgkdaa
open Go.RowKit

theorem sumF_k (a : Option Addr) (n cap : Nat) (xs : List UInt8) (w : World) (hl : xs.length = n) (hlen : n ≤ 9223372036854775807) (hr : Rd w a (bs xs)) (s : Int) (hs : sumOf xs = s) :
    Calls Try.prog 11 #[.slice a n cap] w fun e w' => e = .returned (.int .i64 s) ∧ Keep [] w w' := by
  subst hs; exact sumF_n a n cap xs w hl hlen hr
theorem sumOf_range (xs : List UInt8) : 0 ≤ sumOf xs ∧ sumOf xs ≤ 4294967295 := by
  have := sums_range xs
  unfold sumOf; omega

/-- What two appends onto an empty row leave. -/
theorem appended {w1 w2 w3 : World} {v2 v3 : Value} {n n' : Nat} {xs ys : List UInt8} (h1 : 1 ≤ n) (hn : xs.length = n)
    (hown2 : w2.ownsRow w1.heap.size 5 1 v2 (0 + n) ([] ++ bs xs)) (hk2 : Keep [w1.heap.size] (w1.alloc (.cells #[] 5)) w2)
    (hown3 : w3.ownsRow w1.heap.size 5 1 v3 (0 + n + n') (([] ++ bs xs) ++ bs ys)) (hgrow3 : w2.grownBy w3 v2.ownBlock) :
    Keep [] w1 w3 ∧ ∃ ga capA cur, v3 = .slice (some ⟨ga, 0, none⟩) (n + n') capA ∧ w1.heap.size ≤ ga ∧ Blk w3 ga (bs (xs ++ ys) ++ cur).toArray 5 ∧ n + n' ≤ capA ∧ capA ≤ 9223372036854775807 := by
  refine ⟨(((Keep.refl [] w1).alloc _).trans hk2 (by simp)).trans (Keep.of_grown (S := (Value.ownBlock v2).toList) hgrow3 (by intro k hk; simp [hk])) (by
      intro b hb; right; simp at hb; exact (hown2.lt b hb).1), ?_⟩
  have hl := owns_len hown3
  rcases owns_cases hown3 with ⟨_, hx⟩ | ⟨g, cap, cur, e, hb, hbl, hc, hm⟩
  · exfalso; rw [hx] at hl; simp at hl; omega
  · refine ⟨g, cap, cur, ?_, hb, ?_, ?_, ?_⟩
    · rw [e, hl]; simp
    · simpa [bs] using hbl
    · rw [hc, hl]; omega
    · simpa [maxLen] using hm

theorem RollAt.lts {w : World} {r g : Nat} {xs : List UInt8} (h : RollAt w r g xs) : r < w.heap.size ∧ g < w.heap.size := by
  obtain ⟨_, _, _, _, _, _, _, _, hx, hy⟩ := h.ex
  exact ⟨hx.lt, hy.lt⟩

theorem Rd.byte? {w : World} {a : Option Addr} {xs : List UInt8} {k : Nat} {x : UInt8} (h : Rd w a (bs xs)) (hk : xs[k]? = some x) : ∃ b off, a = some ⟨b, off, none⟩ ∧ b < w.heap.size ∧ w.cell? ⟨b, off + k, none⟩ = some (B8 x) := by
  obtain ⟨h1, h2⟩ := List.getElem?_eq_some_iff.1 hk
  obtain ⟨b, off, e, hc⟩ := h.byte h1
  exact ⟨b, off, e, World.block_lt_of_cell? w (a := ⟨b, off + k, none⟩) hc, by rw [hc, h2]⟩
theorem bs_app_get? {xs : List UInt8} {cur : List Value} {k : Nat} {x : UInt8} (hk : xs[k]? = some x) : (bs xs ++ cur)[k]? = some (B8 x) := by
  obtain ⟨h1, h2⟩ := List.getElem?_eq_some_iff.1 hk
  rw [bs_app_get xs cur k h1, h2]
theorem get_some {α : Type} {xs : List α} {k : Nat} (h : k < xs.length) : ∃ x, xs[k]? = some x := ⟨_, List.getElem?_eq_getElem h⟩
theorem window_step {xs ys : List UInt8} {n k : Nat} {y : UInt8} (h1 : 1 ≤ n) (hn : xs.length = n) (hy : ys[k]? = some y) : ∃ x rest, ((xs ++ ys).drop k).take n = x :: rest ∧ ((xs ++ ys).drop (k + 1)).take n = rest ++ [y] ∧ (xs ++ ys)[k]? = some x := by
  obtain ⟨hk, hy⟩ := List.getElem?_eq_some_iff.1 hy
  have hl : k + n < (xs ++ ys).length := by rw [List.length_append]; omega
  obtain ⟨e1, e2, _⟩ := window_next (xs ++ ys) n k h1 hl
  simp only [window, Int.toNat_natCast] at e1 e2
  refine ⟨_, _, e1, ?_, List.getElem?_eq_getElem (by omega)⟩
  rw [e2, ← hy, List.getElem_append_right (by omega)]
  congr 3; omega

set_option maxHeartbeats 1000000 in
set_option maxRecDepth 100000 in
theorem rollAfresh_walk (a : Option Addr) (n cap : Nat) (xs : List UInt8) (a' : Option Addr) (n' cap' : Nat) (ys : List UInt8) (W : World) (h : InBytes W a n cap xs) (h' : InBytes W a' n' cap' ys) :
    Calls Try.prog 8 #[.slice a n cap, .slice a' n' cap'] W fun e w' => e = .returned (.bool true) ∧ Keep [] W w' := by
  have hle := h.hle
  have hreach := h.reach
  have hle' := h'.hle
  have hreach' := h'.reach
  have HL := Lib.hid h.hlen
  have HL' := Lib.hid h'.hlen
  by_cases hlow : n < 1
  · have d1 : decide ((n : Int) < 1) = true := decide_eq_true (by omega)
    go_enter Try.func8, Try.ntmps8
    go_wp2
    go_returns
    exact ⟨rfl, Keep.refl _ _⟩
  have d0 : decide ((n : Int) < 1) = false := decide_eq_false (by omega)
  by_cases hbig : 4096 < n
  · have d1 : decide ((4096 : Int) < n) = true := decide_eq_true (by omega)
    go_enter Try.func8, Try.ntmps8
    go_wp2
    go_returns
    exact ⟨rfl, Keep.refl _ _⟩
  by_cases hbig' : 3000 < n'
  · have d1 : decide ((4096 : Int) < n) = false := decide_eq_false (by omega)
    have d2 : decide ((3000 : Int) < n') = true := decide_eq_true (by omega)
    go_enter Try.func8, Try.ntmps8
    go_wp2
    go_returns
    exact ⟨rfl, Keep.refl _ _⟩
  have d1 : decide ((4096 : Int) < n) = false := decide_eq_false (by omega)
  have d2 : decide ((3000 : Int) < n') = false := decide_eq_false (by omega)
  have hprod : n' * n ≤ 3000 * 100000 := Nat.mul_le_mul (by omega) (by omega)
  have q1 : IntKind.i64.wrap ((n' : Int) * n) = ((n' * n : Nat) : Int) := by rw [← Int.natCast_mul]; exact IntWalk.i64_in _ (by omega)
  have q2 : wrap64 ((n' : Int) * n) = ((n' * n : Nat) : Int) := by rw [← Int.natCast_mul]; exact IntWalk.wrap64_in _ (by omega)
  generalize n' * n = pr at *
  by_cases hwork : 3000000 < pr
  · have d3 : decide ((3000000 : Int) < pr) = true := decide_eq_true (by omega)
    go_enter Try.func8, Try.ntmps8
    go_wp2
    go_returns
    exact ⟨rfl, Keep.refl _ _⟩
  have d3 : decide ((3000000 : Int) < pr) = false := decide_eq_false (by omega)
  go_enter Try.func8, Try.ntmps8
  go_wp2_with fail
  refine (begun_any a n cap xs W h).mono ?_
  rintro e w1 ⟨hk1, hcase⟩
  rcases hcase with ⟨hg1, hg2, r, g, rfl, hroll, hr, hg⟩ | ⟨hbad, rfl⟩
  · have hi1 := h.keep hk1 (by simp)
    have hi1' := h'.keep hk1 (by simp)
    have h0 : (w1.alloc (.cells #[] 5)).ownsRow w1.heap.size 5 1 (.slice (some ⟨w1.heap.size, 0, none⟩) 0 0) 0 [] := World.ownsRow_made w1 #[] 0 (Nat.le_refl _) (by simp) rfl
    have C1 : Hid ((bs xs).length = n) := by show _ = _; rw [bs_length]; exact HL.out
    have C2 : Hid ((bs ys).length = n') := by show _ = _; rw [bs_length]; exact HL'.out
    have O1 : Hid (∀ v ∈ bs xs, v.oneCell' = true) := bs_one xs
    have O2 : Hid (∀ v ∈ bs ys, v.oneCell' = true) := bs_one ys
    have A1 := Lib.hid (hi1.rd.keep (w' := w1.alloc (.cells #[] 5)) (S := []) ((Keep.refl _ _).alloc _) (by simp))
    have A2 := Lib.hid (hi1'.rd.keep (w' := w1.alloc (.cells #[] 5)) (S := []) ((Keep.refl _ _).alloc _) (by simp))
    have F2 := Lib.hid (hi1'.far (d := w1.heap.size) (Nat.le_refl _))
    go_upto_region 7 with (first
      | (refine wpList_appendB rfl (.tmp 42) (.tmp 43) 23 rfl w1.heap.size 5 (.int .u8 0) 1 Try.underlying23 Try.info5 rfl (.slice (some ⟨w1.heap.size, 0, none⟩) 0 0) 0 [] rfl h0 a n cap (bs xs) rfl C1.out h.hnil A1.out O1.out (by simp only [maxLen]; omega) (by omega) (by simp) ?_; intro v2 w2 hown2 hgrow2 hnil2; have hk2 := Keep.of_grown (S := [w1.heap.size]) hgrow2 (by intro k hk; simp [Value.ownBlock] at hk; simp; omega); have A3 := Lib.hid (A2.out.keep hk2 (by intro e; have := F2.out (by rintro rfl; simp at e); simpa using this)))
      | (refine wpList_appendB rfl (.tmp 44) (.tmp 45) 23 rfl w1.heap.size 5 (.int .u8 0) 1 Try.underlying23 Try.info5 rfl v2 (0 + n) ([] ++ bs xs) rfl hown2 a' n' cap' (bs ys) rfl C2.out h'.hnil A3.out O2.out (by simp only [maxLen]; omega) (by omega) (by have := hk2.size; simp at this; omega) ?_; intro v3 w3 hown3 hgrow3 hnil3))
    obtain ⟨hk3, ga, capA, cur, rfl, hga, hAll, hcap2, hcap3⟩ := appended hg1 HL.out hown2 hk2 hown3 hgrow3
    have hroll3 := hroll.keep hk3 (by simp) (by simp)
    have hkW3 := hk1.trans' hk3
    obtain ⟨hrlt, hglt⟩ := hroll.lts
    have HX : Hid ((xs ++ ys).length = n + n') := by show _ = _; rw [List.length_append, HL.out, HL'.out]
    clear hown2 hown3 hgrow2 hgrow3 hk2 h0 A1 A2 A3 F2 C1 C2 O1 O2 hnil2 hnil3 hi1 hi1' q1 q2
    go_wp2
    go_loopw [8] (fun i wr => ∃ k : Nat, k ≤ n' ∧ i = .int .i64 k ∧ Keep [] W wr ∧ Blk wr ga (bs (xs ++ ys) ++ cur).toArray 5 ∧ RollAt wr r g (((xs ++ ys).drop k).take n)) (fun i _ => n' - (intOf i).toNat)
    case atStart => exact ⟨0, by omega, rfl, hkW3, hAll, by rw [List.drop_zero, List.take_append_of_le_length (by rw [HL.out]; exact Nat.le_refl _), List.take_of_length_le (by rw [HL.out]; exact Nat.le_refl _)]; exact hroll3⟩
    case round =>
      obtain ⟨k, hkk, rfl, hkp, hA, hR⟩ := hrel
      clear hroll hroll3 hAll hk1 hk3 hkW3
      by_cases hlt : k < n'
      · obtain ⟨y, hy⟩ := get_some (xs := ys) (k := k) (by rw [HL'.out]; exact hlt)
        obtain ⟨x, rest, e1, e2, hx⟩ := window_step (xs := xs) hg1 HL.out hy
        obtain ⟨b', off', rfl, _, hcy⟩ := (h'.keep hkp (by simp)).rd.byte? hy
        have hca : wr.cell? ⟨ga, k, none⟩ = some (B8 x) := hA.cell (by simpa using bs_app_get? (cur := cur) hx)
        have hb'lt : b' < W.heap.size := by
          obtain ⟨b3, o3, e3, h3, _⟩ := h'.rd.byte? hy
          cases e3
          exact h3
        have nb1 : b' ∉ [r, g] := by simp; omega
        have nb2 : ga ∉ [r, g] := by simp; omega
        have HW : Hid ((((xs ++ ys).drop (k + 1)).take n).length = n) := by show _ = _; simp only [List.length_take, List.length_drop, HX.out]; omega
        have HV : Hid (∀ w', Blk w' ga (bs (xs ++ ys) ++ cur).toArray 5 → Rd w' (some ⟨ga, k + 1, none⟩) (bs (((xs ++ ys).drop (k + 1)).take n))) := fun w' hb => window_rd hb (by rw [HX.out]; omega)
        obtain ⟨win, hwin⟩ : ∃ win, ((xs ++ ys).drop (k + 1)).take n = win := ⟨_, rfl⟩
        rw [hwin] at HW HV e2
        have HWin := Lib.hid hwin
        clear hwin hx hy
        rw [e1] at hR
        have E2 := Lib.hid e2
        have z8 : (k : Int) < (n : Int) + n' := by omega
        clear e1 e2
        have z1 : 0 ≤ (k : Int) + 1 + n := by omega
        have z2 : (k : Int) + 1 + n ≤ capA := by omega
        have z5 : ¬ capA = k + 1 := by omega
        have z6 : (k : Int) + 1 ≤ (k : Int) + 1 + n := by omega
        go_wp2_with fail
        go_region_held3 (fun w' => w'.cell? ⟨b', off' + k, none⟩ = some (B8 y) ∧ w'.cell? ⟨ga, k, none⟩ = some (B8 x)) ((first | (constructor <;> assumption) | go_simp))
          ((go_at_call 18; go_must (refine (pushRoll_any r g x rest y _ (hR.keep (S := []) (Keep.refl _ _).drew (by simp) (by simp))).mono ?_); go_must (rintro e w3 ⟨rfl, hroll3, hk3⟩; have hcy2 := hk3.cell (v := B8 y) (a := ⟨b', off' + k, none⟩) hcy nb1; have hca2 := hk3.cell (v := B8 x) (a := ⟨ga, k, none⟩) hca nb2)))
        have hroll4 : RollAt w3 r g win := by rw [E2.out]; exact hroll3
        have hkW : Keep [] W w3 := (hkp.drew).trans hk3 (by simp; omega)
        have hbl3 : Blk w3 ga (bs (xs ++ ys) ++ cur).toArray 5 := (Blk.drew hA).keep hk3 nb2
        have hsr := sumOf_range win
        obtain ⟨s, hs⟩ : ∃ s, sumOf win = s := ⟨_, rfl⟩
        rw [hs] at hsr
        have HS := Lib.hid hs
        have d6 : decide (s < 0) = false := decide_eq_false (by omega)
        have d7 : decide (4294967295 < s) = false := decide_eq_false (by omega)
        clear hs hsr hroll3 hcy hca hcy2 hca2 hA hR hkp
        go_wp2_with fail
        refine (sumRoll_any r g win _ hroll4).mono ?_
        rw [HS.out]
        rintro e w4 ⟨rfl, hk4⟩
        have hbl4 := hbl3.keep hk4 (by simp)
        go_wp2_with fail
        refine (sumF_k (some ⟨ga, k + 1, none⟩) n _ win _ HW.out (by omega) (HV.out _ hbl4) s HS.out).mono ?_
        rintro e w5 ⟨rfl, hk5⟩
        have r1 := (hroll4.keep hk4 (by simp) (by simp)).keep hk5 (by simp) (by simp)
        have r2 := (hkW.trans' hk4).trans' hk5
        have r3 := hbl4.keep hk5 (by simp)
        go_wp2
        exact ⟨⟨k + 1, by omega, by go_num, r2, r3, by rw [HWin.out]; exact r1⟩, by simp [intOf]; omega⟩
      · go_wp2_with fail
        refine (known_any wr).mono ?_
        rintro e w5 ⟨rfl, hk5⟩
        go_wp2
        go_returns
        exact ⟨rfl, hkp.trans' hk5⟩
  · exfalso; omega
end Go.Proofs.Ytcbinihjbmgkdaa
