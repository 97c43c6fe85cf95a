/- The reference's words: IsNumber, Number, IsFixed, Fixed, Text. -/
import Derived.Test.YtpocegdlobnhaaaCH
set_option linter.unusedVariables false
set_option linter.unusedSimpArgs false
set_option maxRecDepth 100000
namespace Go.Proofs.Ytpocegdlobnhaaa.Cod
open Go.RowKit

/-- A row of bytes of the call's own. -/
def Owns (w : World) (e : Ending) (w' : World) (xs : List UInt8) : Prop :=
  ∃ a c, e = .returned (.slice a xs.length c) ∧ Sl w' 5 1 (.slice a xs.length c) xs.length (bs xs) ∧ Fr w [] (blks (.slice a xs.length c)) ∧ Keep [] w w'

set_option maxHeartbeats 2000000 in
theorem refNumber_any (V : Nat) (w : World) (hV : V ≤ 2147483647) : Calls Try.prog 62 #[.int .i64 V] w fun e w' => Owns w e w' (numB V) := by
  go_enter Try.func62, Try.ntmps62
  go_wp2_with fail
  go_loopw [0, 3] (fun v0 v3 wr => ∃ (m k : Nat) (xs : List UInt8), v0 = .int .i64 m ∧ m ≤ 2147483647 ∧ xs.length = k ∧ Hid (numB V = xs ++ numB m) ∧ Sl wr 5 1 v3 k (bs xs) ∧ (∀ b ∈ blks v3, w.heap.size ≤ b) ∧ Keep [] w wr) (fun v0 _ _ => (intOf v0).toNat)
  case atStart => exact ⟨V, 0, [], rfl, hV, rfl, Lib.hid (by simp), Sl.nil _ _ _, by simp [blks, Value.ownBlock], Keep.refl _ _⟩
  case round =>
    obtain ⟨m, k, xs, rfl, hm, hk, HN, hS, hb, hkw⟩ := hrel
    obtain ⟨sa, sc, rfl, -, -, hsc, hsm, -⟩ := hS.form
    have hk5 : k + 1 ≤ 5 := by
      have h1 := congrArg List.length HN.out
      have h2 := numB_len5 hV
      have h3 := numB_len5 hm
      rw [List.length_append] at h1; omega
    by_cases hlt : 128 ≤ m
    · have g1 : (128 : Int) ≤ m := by omega
      go_wp2_with (first
        | (at_builtin; go_must (refine wpList_append1 wr rfl (.tmp 6) (.tmp 11) 22 rfl 5 (.int .u8 0) 1 Try.underlying22 info5 rfl (.int .u8 (128 + (m : Int) % 128)) rfl (.slice sa k sc) k _ rfl hS rfl (by simp only [maxLen]; omega) (by omega) ?_; intro a1 c1 w1 hs1 hk1 hf1))
        | fail)
      have hval : Value.int .u8 (128 + (m : Int) % 128) = B8 (UInt8.ofNat (m % 128 + 128)) := by
        rw [← byte_low _ (by omega)]; congr 1; omega
      rw [hval] at hs1
      refine ⟨⟨m / 128, k + 1, xs ++ [UInt8.ofNat (m % 128 + 128)], by congr 1, by omega, by simp [hk], ?_, ?_, ?_, ?_⟩, ?_⟩
      · exact Lib.hid (by rw [HN.out, numB_big (by omega)]; simp)
      · simpa [bs_append] using hs1
      · exact fun b h => by rcases hf1 b h with h1 | h1; exact hb b h1; have := hkw.size; omega
      · exact hkw.trans hk1 (fun b h => Or.inr (hb b h))
      · simp [intOf]; omega
    · have g1 : ¬ (128 : Int) ≤ m := by omega
      go_wp2_with (first
        | (at_builtin; go_must (refine wpList_append1 wr rfl (.tmp 15) (.tmp 18) 22 rfl 5 (.int .u8 0) 1 Try.underlying22 info5 rfl (.int .u8 (m : Int)) rfl (.slice sa k sc) k _ rfl hS rfl (by simp only [maxLen]; omega) (by omega) ?_; intro a1 c1 w1 hs1 hk1 hf1))
        | fail)
      go_returns
      rw [byte_low m (by omega)] at hs1
      have hlen : (numB V).length = k + 1 := by rw [HN.out, numB_small (show m < 128 by omega)]; simp [hk]
      refine ⟨a1, c1, by rw [hlen]; rfl, ?_, ?_, hkw.trans hk1 (fun b h => Or.inr (hb b h))⟩
      · rw [hlen, HN.out, numB_small (show m < 128 by omega), bs_append]; exact hs1
      · rw [hlen]; exact Fr.new (w' := w) (fun b h => by rcases hf1 b h with h1 | h1; exact hb b h1; have := hkw.size; omega)

/-- Bytes of a number, the last first put in. -/
theorem fixB_take (v n : Nat) : ∀ k, k ≤ n → fixB v n = fixB (v / 2 ^ (8 * k)) (n - k) ++ fixB v k
  | k, hk => by
    obtain ⟨m, rfl⟩ : ∃ m, n = m + k := ⟨n - k, by omega⟩
    rw [Nat.add_sub_cancel]
    clear hk
    induction m with
    | zero => simp [fixB]
    | succ m ih =>
      have e : m + 1 + k = (m + k) + 1 := by omega
      rw [e, fixB, ih, fixB, List.cons_append]
      congr 2
      rw [Nat.div_div_eq_div_mul, ← Nat.pow_add]
      congr 2; omega

set_option maxRecDepth 100000 in
theorem bs_set (l : List UInt8) (k : Nat) (x : UInt8) : (bs (l.set k x)).toArray = (bs l).toArray.setIfInBounds k (B8 x) := by
  apply Array.ext'; simp [bs, List.map_set]
theorem madeCells_rep (z : Value) (n : Nat) : madeCells #[z] n = Array.replicate n z := by
  apply Array.ext'; rw [toList_madeCells_one]; simp
theorem rep_bs (n : Nat) : Array.replicate n (B8 0) = (bs (List.replicate n 0)).toArray := by
  apply Array.ext'; simp [bs]
theorem mk_any (n : Nat) (h : n ≤ 281474976710656) (w : World) : (Instr.makeSlice 22 (.int .i64 n) (.int .i64 n)).run Try.prog w = .ok (.slice (some ⟨w.heap.size, 0, none⟩) n n) (w.alloc (.cells (Array.replicate n (B8 0)) 5)) := by
  have h := run_make_row' (P := Try.prog) 22 5 (.int .u8 0) 1 Try.underlying22 info5 rfl .i64 .i64 n (by omega) (by omega) w
  rw [madeCells_rep] at h
  exact h

set_option maxHeartbeats 2000000 in
theorem refFixed_any (V K : Nat) (w : World) (hK1 : 1 ≤ K) (hK4 : K ≤ 4) (hV : V ≤ 4294967295) : Calls Try.prog 70 #[.int .i64 V, .int .i64 K] w fun e w' => Owns w e w' (fixB V K) := by
  have hmk := mk_any K (by omega)
  go_enter Try.func70, Try.ntmps70
  go_wp2_with fail
  clear hmk
  have hB0 := Blk.new w (Array.replicate K (B8 0)) 5
  have k0 : Keep [] w (w.alloc (.cells (Array.replicate K (B8 0)) 5)) := (Keep.refl _ _).alloc _
  obtain ⟨G, hG⟩ : ∃ G, w.heap.size = G := ⟨_, rfl⟩
  have hG2 : w.heap.size ≤ G := by omega
  rw [hG] at hB0 ⊢
  generalize w.alloc (.cells (Array.replicate K (B8 0)) 5) = w0 at hB0 k0 ⊢
  rw [rep_bs] at hB0
  clear hG
  go_loopw [0, 6] (fun v0 v6 wr => ∃ k j : Nat, j + k = K ∧ v6 = .int .i64 ((j : Int) - 1) ∧ v0 = .int .i64 ((V / 2 ^ (8 * k) : Nat) : Int) ∧ Blk wr G (bs (List.replicate j 0 ++ fixB V k)).toArray 5 ∧ Keep [] w wr) (fun _ v6 _ => (intOf v6 + 1).toNat)
  case atStart => exact ⟨0, K, rfl, rfl, by simp, by simpa [fixB] using hB0, k0⟩
  case round =>
    clear hB0 k0
    obtain ⟨k, j, hjk, rfl, rfl, hB, hk⟩ := hrel
    have HJK := Lib.hid hjk
    cases j with
    | zero =>
      have e0 : ((0 : Nat) : Int) - 1 = -1 := rfl
      rw [e0]
      clear hjk
      go_wp2_with fail
      go_returns
      have hkk : k = K := by have := HJK.out; omega
      subst hkk
      simp only [List.replicate_zero, List.nil_append] at hB
      refine ⟨some ⟨G, 0, none⟩, k, by rw [fixB_len]; rfl, ?_, ?_, hk⟩
      · rw [fixB_len]
        exact ⟨by rw [bs_length, fixB_len, Nat.mul_one], Or.inr ⟨G, k, [], [], rfl, by simpa using hB, Nat.le_refl _, by rw [bs_length, fixB_len]; simp, by simp only [maxLen]; omega⟩⟩
      · intro b hb
        simp [blks, Value.ownBlock] at hb
        exact Or.inr (by omega)
    | succ i =>
      have e0 : ((i + 1 : Nat) : Int) - 1 = i := by omega
      rw [e0]
      have hiK : i < K := by omega
      have hi3 : i ≤ 3 := by omega
      clear hjk e0
      have c0 : wr.cell? ⟨G, i, none⟩ = some (B8 0) := hB.cell (by
        simp only [bs, List.getElem?_toArray, List.getElem?_map]
        rw [List.getElem?_append_left (by simp)]
        simp)
      have f0 := hB.free (i := i)
      obtain ⟨q, hq⟩ : ∃ q, V / 2 ^ (8 * k) = q := ⟨_, rfl⟩
      have hq2 : q ≤ 4294967295 := by rw [← hq]; exact Nat.le_trans (Nat.div_le_self _ _) hV
      rw [hq]
      have HQ := Lib.hid hq
      clear hq
      go_wp2_with fail
      have hset := hB.set i (.int .u8 ((q : Int) % 256))
      refine ⟨⟨k + 1, i, by have := HJK.out; omega, rfl, ?_, ?_, hk.set (Or.inr hG2) _⟩, by simp [intOf]⟩
      · rw [← HQ.out]
        push_cast
        congr 1
        rw [Int.ediv_ediv_of_nonneg (by exact_mod_cast Nat.zero_le _), show (8 * (k + 1)) = 8 * k + 8 by omega, Int.pow_add]; rfl
      · rw [byte_nat] at hset
        have e : ((bs (List.replicate (i + 1) 0 ++ fixB V k)).toArray.setIfInBounds i (B8 (UInt8.ofNat q))) = (bs (List.replicate i 0 ++ fixB V (k + 1))).toArray := by
          rw [← bs_set, List.replicate_succ', List.append_assoc, List.set_append_right _ _ (by simp)]
          simp [fixB, HQ.out]
        rw [e] at hset; exact hset
end Go.Proofs.Ytpocegdlobnhaaa.Cod
