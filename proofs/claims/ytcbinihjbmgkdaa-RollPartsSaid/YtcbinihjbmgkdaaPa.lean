/- The law RollParts: its walk. -/
import Derived.Test.YtcbinihjbmgkdaaAf
set_option linter.unusedVariables false
set_option linter.unusedSimpArgs false
namespace Go.Proofs.Ytcbinihjbmgkdaa
open Go.RowKit

theorem sumOf_parts (xs : List UInt8) : sumOf xs % 65536 = (sums xs).1 ∧ sumOf xs / 65536 = (sums xs).2 := by
  have := sums_range xs
  unfold sumOf; omega
theorem sums_app1 (xs : List UInt8) (y : UInt8) : sums (xs ++ [y]) = sumStep (sums xs) y := by simp only [sums, List.foldl_append]; rfl
theorem sumOf_zero (xs : List UInt8) : sumOf (0 :: xs) = sumOf xs := by
  have : sums (0 :: xs) = sums xs := by
    rw [sums_closed, sums_closed]; simp [S1, S2]
  simp only [sumOf, this]
theorem parts_law (xs : List UInt8) (y : UInt8) : sumOf (xs ++ [y]) % 65536 = (sumOf xs % 65536 + y.toNat) % 65536 ∧ sumOf (xs ++ [y]) / 65536 = (sumOf xs / 65536 + (sumOf xs % 65536 + y.toNat) % 65536) % 65536 := by
  obtain ⟨h1, h2⟩ := sumOf_parts xs
  obtain ⟨h3, h4⟩ := sumOf_parts (xs ++ [y])
  rw [h1, h2, h3, h4, sums_app1]
  exact ⟨rfl, rfl⟩

set_option maxHeartbeats 1000000 in
set_option maxRecDepth 100000 in
theorem rollParts_walk (a : Option Addr) (n cap : Nat) (xs : List UInt8) (m : Int) (W : World) (h : InBytes W a n cap xs) (hm : (Lit.int .u8 m).wf = true) :
    Calls Try.prog 10 #[.slice a n cap, .int .u8 m] W fun e w' => e = .returned (.bool true) ∧ Keep [] W w' := by
  have hle := h.hle
  have hreach := h.reach
  have HL := Lib.hid h.hlen
  obtain ⟨y, rfl⟩ : ∃ y : UInt8, m = y.toNat := by
    have hx : 0 ≤ m ∧ m ≤ 255 := by simpa [Lit.wf, IntKind.min, IntKind.max, IntKind.signed, IntKind.bits] using hm
    exact ⟨UInt8.ofNat m.toNat, by rw [UInt8.toNat_ofNat']; omega⟩
  clear hm
  have hy := y.toNat_lt
  by_cases hbig : 100000 < n
  · have d1 : decide ((100000 : Int) < n) = true := decide_eq_true (by omega)
    go_enter Try.func10, Try.ntmps10
    go_wp2
    go_returns
    exact ⟨rfl, Keep.refl _ _⟩
  have d1 : decide ((100000 : Int) < n) = false := decide_eq_false (by omega)
  obtain ⟨p1, p2⟩ := parts_law xs y
  have p3 := sumOf_zero xs
  have r1 := sumOf_range xs
  have r2 := sumOf_range (xs ++ [y])
  obtain ⟨A, hA⟩ : ∃ A, sumOf xs = A := ⟨_, rfl⟩
  obtain ⟨B, hB⟩ : ∃ B, sumOf (xs ++ [y]) = B := ⟨_, rfl⟩
  rw [hB, hA] at p1 p2
  rw [hA] at p3 r1
  rw [hB] at r2
  obtain ⟨r1, r1'⟩ := r1
  obtain ⟨r2, r2'⟩ := r2
  have e1 : (B % 65536 == (A + y.toNat) % 65536) = true := by rw [beq_iff_eq]; omega
  have e2 : (B / 65536 == (A / 65536 + (A + y.toNat)) % 65536) = true := by rw [beq_iff_eq]; omega
  have e3 : (A == A) = true := beq_self_eq_true A
  have HA := Lib.hid hA
  have HB := Lib.hid hB
  have HP := Lib.hid p3
  clear hA hB p1 p2 p3
  go_enter Try.func10, Try.ntmps10
  go_wp2_with fail
  refine (sumF_k a n cap xs W HL.out (by omega) h.rd A HA.out).mono ?_
  rintro e w1 ⟨rfl, hk1⟩
  have hi1 := h.keep hk1 (by simp)
  have h0 : (w1.alloc (.cells #[] 5)).ownsRow w1.heap.size 5 1 (.slice (some ⟨w1.heap.size, 0, none⟩) 0 0) 0 [] := World.ownsRow_made w1 #[] 0 (Nat.le_refl _) (by simp) rfl
  have C1 : Hid ((bs xs).length = n) := by show _ = _; rw [bs_length]; exact HL.out
  have O1 : Hid (∀ v ∈ bs xs, v.oneCell' = true) := bs_one xs
  have O2 : Hid (∀ v ∈ [B8 y], v.oneCell' = true) := by show ∀ v ∈ _, _; simp [Value.oneCell']
  have A1 := Lib.hid (hi1.rd.keep (w' := w1.alloc (.cells #[] 5)) (S := []) ((Keep.refl _ _).alloc _) (by simp))
  go_wp2_with (first
    | (refine wpList_appendB rfl (.tmp 14) (.tmp 15) 23 rfl w1.heap.size 5 (.int .u8 0) 1 Try.underlying23 Try.info5 rfl (.slice (some ⟨w1.heap.size, 0, none⟩) 0 0) 0 [] rfl h0 a n cap (bs xs) rfl C1.out h.hnil A1.out O1.out (by simp only [maxLen]; omega) (by omega) (by simp) ?_; intro v2 w2 hown2 hgrow2 hnil2; have hk2 := Keep.of_grown (S := [w1.heap.size]) hgrow2 (by intro k hk; simp [Value.ownBlock] at hk; simp; omega); have hown2' := hown2.alloc (.cells #[.int .u8 y.toNat] 5))
    | (refine wpList_appendB rfl (.tmp 16) (.tmp 18) 23 rfl w1.heap.size 5 (.int .u8 0) 1 Try.underlying23 Try.info5 rfl v2 (0 + n) ([] ++ bs xs) rfl hown2' (some ⟨w2.heap.size, 0, none⟩) 1 1 [B8 y] rfl rfl (by simp) (Rd.made _ _ _ _ _ _ rfl rfl) O2.out (by simp only [maxLen]; omega) (by omega) (by have := hk2.size; simp at this; simp; omega) ?_; intro v3 w3 hown3 hgrow3 hnil3))
  have hk3 : Keep [] w1 w3 := ((((Keep.refl [] w1).alloc _).trans hk2 (by simp)).alloc _).trans (Keep.of_grown (S := (Value.ownBlock v2).toList) hgrow3 (by intro k hk; simp [hk])) (by
      intro b hb; right; simp at hb; exact (hown2.lt b hb).1)
  obtain ⟨a3, cap3, rfl, _, hr3, hl3⟩ := owns_form hown3
  have HR3 : Hid (Rd w3 a3 (bs (xs ++ [y]))) := by show Rd _ _ _; simpa [bs] using hr3
  have HL3 : Hid ((xs ++ [y]).length = 0 + n + 1) := by show _ = _; rw [List.length_append, HL.out]; simp
  clear hr3 hl3 hown2' hown2 hgrow2 hk2 hown3 hgrow3 hnil2 hnil3 h0 A1 O2
  refine (sumF_k a3 (0 + n + 1) cap3 (xs ++ [y]) w3 HL3.out (by omega) HR3.out B HB.out).mono ?_
  rintro e w4 ⟨rfl, hk4⟩
  have hk14 := hk3.trans' hk4
  have hi4 := hi1.keep hk14 (by simp)
  have h0 : (w4.alloc (.cells #[.int .u8 0] 5)).ownsRow w4.heap.size 5 1 (.slice (some ⟨w4.heap.size, 0, none⟩) 1 1) 1 [B8 0] :=
    owns_of_blk (cur := []) (Nat.le_refl _) (by exact Blk.new w4 #[.int .u8 0] 5) (by simp [maxLen])
  have A1 := Lib.hid (hi4.rd.keep (w' := w4.alloc (.cells #[.int .u8 0] 5)) (S := []) ((Keep.refl _ _).alloc _) (by simp))
  go_wp2_with (refine wpList_appendB rfl (.tmp 21) (.tmp 22) 23 rfl w4.heap.size 5 (.int .u8 0) 1 Try.underlying23 Try.info5 rfl (.slice (some ⟨w4.heap.size, 0, none⟩) 1 1) 1 [B8 0] rfl h0 a n cap (bs xs) rfl C1.out h.hnil A1.out O1.out (by simp only [maxLen]; omega) (by omega) (by simp) ?_; intro v5 w5 hown5 hgrow5 hnil5)
  have hk5 : Keep [] w4 w5 := ((Keep.refl [] w4).alloc _).trans (Keep.of_grown (S := [w4.heap.size]) hgrow5 (by intro k hk; simp [Value.ownBlock] at hk; simp; omega)) (by simp)
  obtain ⟨a5, cap5, rfl, _, hr5, hl5⟩ := owns_form hown5
  have HR5 : Hid (Rd w5 a5 (bs (0 :: xs))) := by show Rd _ _ _; simpa [bs] using hr5
  have HL5 : Hid ((0 :: xs : List UInt8).length = 1 + n) := by show _ = _; rw [List.length_cons, HL.out]; omega
  clear hr5 hl5 hown5 hgrow5 hnil5 h0 A1
  refine (sumF_k a5 (1 + n) cap5 (0 :: xs) w5 HL5.out (by omega) HR5.out A HP.out).mono ?_
  rintro e w6 ⟨rfl, hk6⟩
  have hk16 := (hk14.trans' hk5).trans' hk6
  go_wp2_with fail
  refine (known_any w6).mono ?_
  rintro e w7 ⟨rfl, hk7⟩
  go_wp2
  go_returns
  exact ⟨rfl, (hk1.trans' hk16).trans' hk7⟩
end Go.Proofs.Ytcbinihjbmgkdaa
