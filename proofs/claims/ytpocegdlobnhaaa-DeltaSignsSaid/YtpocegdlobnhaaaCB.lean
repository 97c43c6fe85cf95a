/- A Writer's Number, Fixed, Raw, Text. -/
import Derived.Test.YtpocegdlobnhaaaCA
set_option linter.unusedVariables false
set_option linter.unusedSimpArgs false
set_option maxRecDepth 100000
namespace Go.Proofs.Ytpocegdlobnhaaa.Cod
open Go.RowKit

/-- The shortest form of a number. -/
def numB (v : Nat) : List UInt8 := if v < 128 then [UInt8.ofNat v] else UInt8.ofNat (v % 128 + 128) :: numB (v / 128)
def isNum (v : Int) : Bool := decide (0 ≤ v ∧ v ≤ 2147483647)
theorem numB_small {v : Nat} (h : v < 128) : numB v = [UInt8.ofNat v] := by rw [numB, if_pos h]
theorem numB_big {v : Nat} (h : ¬ v < 128) : numB v = UInt8.ofNat (v % 128 + 128) :: numB (v / 128) := by rw [numB, if_neg h]

theorem and127 (m : Nat) (hm : m ≤ 2147483647) : bits .and .i64 (m : Int) 127 = ((m % 128 : Nat) : Int) := by
  have := i64_and_nat m 127 (by omega) (by omega)
  rw [show (127 : Nat) = 2 ^ 7 - 1 from rfl, Nat.and_two_pow_sub_one_eq_mod] at this
  exact this
theorem or128 (r : Nat) (hr : r < 128) : bits .or .i64 (r : Int) 128 = ((r + 128 : Nat) : Int) := by
  have := i64_or_nat r 128 (by omega) (by omega)
  have e : r ||| 128 = r + 128 := by
    have := Nat.two_pow_add_eq_or_of_lt (i := 7) (b := r) (by omega) 1
    rw [Nat.or_comm, show (128 : Nat) = 2 ^ 7 * 1 from rfl, ← this]; omega
  rw [e] at this; exact this
theorem byte_nat (n : Nat) : Value.int .u8 ((n : Int) % 256) = B8 (UInt8.ofNat n) := by
  simp only [B8, UInt8.toNat_ofNat', Value.int.injEq, true_and]; omega

theorem numB_len (j : Nat) : ∀ v, v < 128 ^ (j + 1) → 1 ≤ (numB v).length ∧ (numB v).length ≤ j + 1 := by
  induction j with
  | zero => intro v hv; rw [numB_small (by omega)]; simp
  | succ j ih =>
    intro v hv
    by_cases h : v < 128
    · rw [numB_small h]; simp
    · rw [numB_big h]
      have := ih (v / 128) (by rw [Nat.div_lt_iff_lt_mul (by omega)]; rw [Nat.pow_succ] at hv; exact hv)
      simp only [List.length_cons]; omega
theorem numB_len5 {v : Nat} (h : v ≤ 2147483647) : 1 ≤ (numB v).length ∧ (numB v).length ≤ 5 := numB_len 4 v (by omega)
theorem byte_low (n : Nat) (h : n < 256) : Value.int .u8 (n : Int) = B8 (UInt8.ofNat n) := by
  simp only [B8, UInt8.toNat_ofNat', Value.int.injEq, true_and]; omega
theorem wrap_u8_of' (n : Int) : Value.int .u8 (n % 256) = B8 (UInt8.ofNat (n % 256).toNat) := wrap_u8_of n
theorem byte_hi (m : Nat) (hm : m ≤ 2147483647) : Value.int .u8 (bits .or .i64 (bits .and .i64 (m : Int) 127) 128 % 256) = B8 (UInt8.ofNat (m % 128 + 128)) := by
  rw [and127 m hm, or128 _ (Nat.mod_lt _ (by omega)), byte_nat]

set_option maxHeartbeats 2000000 in
theorem number_any (P : Nat) (S : List Nat) (bad : Bool) (d : List UInt8) (v : Int) (w : World) (hW : WrAt w P S bad d) (hv : (Lit.int .i64 v).wf = true) (hsum : d.length + 5 ≤ 140737488355328) :
    Calls Try.prog 67 #[.pointer (some ⟨P, 0, none⟩), .int .i64 v] w fun e w' => e = .returned (.tuple #[]) ∧ (∃ S', WrAt w' P S' (bad || !isNum v) (putD (bad || !isNum v) d (numB v.toNat)) ∧ Fr w S S') ∧ Keep S w w' := by
  by_cases hn : 0 ≤ v ∧ v ≤ 2147483647
  · obtain ⟨h0, h1⟩ := hn
    obtain ⟨V, rfl⟩ := Int.eq_ofNat_of_zero_le h0
    have hV : V ≤ 2147483647 := by omega
    go_enter Try.func67, Try.ntmps67
    go_upto_region 3 with fail
    go_loopw [1, 5] (fun v1 v5 wr => ∃ (m k : Nat) (xs : List UInt8), v1 = .int .i64 m ∧ m ≤ 2147483647 ∧ xs.length = k ∧ Hid (numB V = xs ++ numB m) ∧ Sl wr 5 1 v5 k (bs xs) ∧ (∀ b ∈ blks v5, w.heap.size ≤ b) ∧ Keep [] w wr) (fun v1 _ _ => (intOf v1).toNat)
    case atStart => exact ⟨V, 0, [], rfl, hV, rfl, Lib.hid (by simp), Sl.nil _ _ _, by simp [blks, Value.ownBlock], Keep.refl _ _⟩
    case round =>
      obtain ⟨m, k, xs, rfl, hm, hk, HN, hS, hb, hkw⟩ := hrel
      obtain ⟨sa, sc, rfl, -, -, hsc, hsm, -⟩ := hS.form
      by_cases hlt : 127 < m
      · have g1 : (127 : Int) < m := by omega
        have hk5 : k ≤ 5 := by
          have h1 := congrArg List.length HN.out
          have h2 := numB_len5 hV
          rw [List.length_append] at h1; omega
        go_wp2_with (first
          | (at_builtin; refine wpList_append1 wr rfl (.tmp 21) (.tmp 26) 22 rfl 5 (.int .u8 0) 1 Try.underlying22 info5 rfl (.int .u8 (bits .or .i64 (bits .and .i64 (m : Int) 127) 128 % 256)) rfl (.slice sa k sc) k _ rfl hS rfl (by simp only [maxLen]; omega) (by omega) ?_; intro a1 c1 w1 hs1 hk1 hf1)
          | fail)
        have hval := byte_hi m hm
        rw [hval] at hs1
        refine ⟨⟨m / 128, k + 1, xs ++ [UInt8.ofNat (m % 128 + 128)], by congr 1, by omega, by simp [hk], ?_, ?_, ?_, ?_⟩, ?_⟩
        · exact Lib.hid (by rw [HN.out, numB_big (by omega)]; simp)
        · simpa [bs_append] using hs1
        · exact fun b h => by rcases hf1 b h with h1 | h1; exact hb b h1; have := hkw.size; omega
        · exact hkw.trans hk1 (fun b h => Or.inr (hb b h))
        · simp [intOf]; omega
      · have g1 : ¬ (127 : Int) < m := by omega
        have hk5 : k + 1 ≤ 5 := by
          have h1 := congrArg List.length HN.out
          have h2 := numB_len5 hV
          have h3 := numB_len5 hm
          rw [List.length_append] at h1; omega
        have h5 := (numB_len5 hV).2
        go_upto_region 6 with fail
        go_wp2_with (first
          | (at_builtin; refine wpList_append1 wr rfl (.tmp 30) (.tmp 33) 22 rfl 5 (.int .u8 0) 1 Try.underlying22 info5 rfl (.int .u8 (m : Int)) rfl (.slice sa k sc) k _ rfl hS rfl (by simp only [maxLen]; omega) (by omega) ?_; intro a1 c1 w1 hs1 hk1 hf1
             have hs2 : Sl w1 5 1 (.slice a1 (k + 1) c1) (k + 1) (bs (numB V)) := by
               have := hs1
               rw [byte_low m (by omega)] at this
               rw [HN.out, numB_small (show m < 128 by omega), bs_append]; exact this
             obtain ⟨-, e6, e3, -, -⟩ := hs2.use
             have kw1 : Keep [] w w1 := hkw.trans hk1 (fun b h => Or.inr (hb b h))
             go_must (have hput := put_any P S bad true d (numB V) a1 (k + 1) c1 w1 (hW.keep kw1 (by simp)) (by rw [HN.out, numB_small (show m < 128 by omega)]; simp [hk]) e6 e3 (fun hne hE => by
               have h1 := hs2.ablk (fun e => hne (by simpa [bs] using e))
               have h2 := hW.lt P hW.self
               rcases hf1 _ h1 with h3 | h3
               · have := hb _ h3; omega
               · have := hkw.size; omega) (by omega)))
          | (go_at_call 99; refine hput.mono ?_; rintro e w2 ⟨rfl, ⟨S', hW2, hf2⟩, hk2⟩)
          | fail)
        go_returns
        have hi : isNum (V : Int) = true := by simp [isNum]; omega
        rw [hi]
        exact ⟨rfl, ⟨S', hW2, hf2.le kw1.size⟩, ((kw1.mono (by simp)).trans hk2 (fun b hb => Or.inl hb) : Keep S w w2)⟩
  · have hi : isNum v = false := by simpa [isNum] using hn
    rw [hi]
    go_enter Try.func67, Try.ntmps67
    by_cases h0 : 0 ≤ v
    · have h1 : ¬ v ≤ 2147483647 := fun h => hn ⟨h0, h⟩
      clear hn hi
      go_upto_region 3 with fail
      go_loopw [1, 5] (fun v1 v5 wr => v1 = .int .i64 v ∧ v5 = .slice none 0 0 ∧ wr = w) (fun _ _ _ => 0)
      case atStart => exact ⟨rfl, rfl, rfl⟩
      case round =>
        obtain ⟨rfl, rfl, rfl⟩ := hrel
        have h0w := hW.lt P hW.self
        go_wp2_with (first
          | (at_builtin; refine wpList_append1 wr rfl (.tmp 30) (.tmp 33) 22 rfl 5 (.int .u8 0) 1 Try.underlying22 info5 rfl (.int .u8 (v % 256)) rfl (.slice none 0 0) 0 [] rfl (Sl.nil _ _ _) rfl (by simp only [maxLen]; omega) (by omega) ?_; intro a1 c1 w1 hs1 hk1 hf1
             rw [wrap_u8_of' v] at hs1
             obtain ⟨-, e6, e3, -, -⟩ := hs1.use
             have kw1 : Keep [] wr w1 := hk1
             go_must (have hput := put_any P S bad false d [UInt8.ofNat (v % 256).toNat] a1 1 c1 w1 (hW.keep kw1 (by simp)) rfl e6 e3 (fun hne hE => by
               have h1 := hs1.ablk (by simp)
               rcases hf1 _ h1 with h3 | h3
               · cases h3
               · omega) (by omega)))
          | (go_at_call 99; refine hput.mono ?_; rintro e w2 ⟨rfl, ⟨S', hW2, hf2⟩, hk2⟩)
          | fail)
        go_returns
        exact ⟨rfl, ⟨S', by simpa [putD] using hW2, hf2.le kw1.size⟩, ((kw1.mono (by simp)).trans hk2 (fun b hb => Or.inl hb) : Keep S wr w2)⟩
    · clear hn hi
      go_upto_region 3 with fail
      go_loopw [1, 5] (fun v1 v5 wr => v1 = .int .i64 v ∧ v5 = .slice none 0 0 ∧ wr = w) (fun _ _ _ => 0)
      case atStart => exact ⟨rfl, rfl, rfl⟩
      case round =>
        obtain ⟨rfl, rfl, rfl⟩ := hrel
        have h0w := hW.lt P hW.self
        go_wp2_with (first
          | (at_builtin; refine wpList_append1 wr rfl (.tmp 30) (.tmp 33) 22 rfl 5 (.int .u8 0) 1 Try.underlying22 info5 rfl (.int .u8 (v % 256)) rfl (.slice none 0 0) 0 [] rfl (Sl.nil _ _ _) rfl (by simp only [maxLen]; omega) (by omega) ?_; intro a1 c1 w1 hs1 hk1 hf1
             rw [wrap_u8_of' v] at hs1
             obtain ⟨-, e6, e3, -, -⟩ := hs1.use
             have kw1 : Keep [] wr w1 := hk1
             go_must (have hput := put_any P S bad false d [UInt8.ofNat (v % 256).toNat] a1 1 c1 w1 (hW.keep kw1 (by simp)) rfl e6 e3 (fun hne hE => by
               have h1 := hs1.ablk (by simp)
               rcases hf1 _ h1 with h3 | h3
               · cases h3
               · omega) (by omega)))
          | (go_at_call 99; refine hput.mono ?_; rintro e w2 ⟨rfl, ⟨S', hW2, hf2⟩, hk2⟩)
          | fail)
        go_returns
        exact ⟨rfl, ⟨S', by simpa [putD] using hW2, hf2.le kw1.size⟩, ((kw1.mono (by simp)).trans hk2 (fun b hb => Or.inl hb) : Keep S wr w2)⟩
end Go.Proofs.Ytpocegdlobnhaaa.Cod
