/- The reference's row: a message with what is put behind it. -/
import Derived.Test.YtpocegdlobnhaaaIb
import Derived.Test.YtpocegdlobnhaaaDR
set_option linter.unusedVariables false
set_option linter.unusedSimpArgs false
set_option maxRecDepth 100000
namespace Go.Proofs.Ytpocegdlobnhaaa.Dig
open Go.RowKit
theorem info5 : (Try.prog.info? 5).map (fun i => (i.zero, i.size, i.bytes)) = some (some (.int .u8 0), 1, 1) := by kernel_rfl

/-- How many bytes a row of this length wants to be filled up. -/
def fillLen : Value → Nat
  | .slice _ l _ => (120 - l % 64) % 64
  | _ => 0

set_option maxHeartbeats 4000000 in
set_option maxRecDepth 100000 in
theorem row_any (xs : List UInt8) (n cap : Nat) (pa : Option Addr) (w : World) (hx : InBytes w pa n cap xs) (hn : n + 128 ≤ 140737488355328) :
    Calls Try.prog 93 #[.slice pa n cap] w fun e w' => ∃ v, e = .returned v ∧ Sl w' 5 1 v (pad xs).length (bs (pad xs)) ∧ (∀ b ∈ blks v, w.heap.size ≤ b) ∧ Keep [] w w' := by
  have HL := Lib.hid hx.hlen
  have S0 : Sl (w.alloc (.cells #[] 5)) 5 1 (.slice (some ⟨w.heap.size, 0, none⟩) 0 0) 0 [] := Sl.made w 5 1 #[] 0 _ rfl rfl (by simp [maxLen])
  have hrx : Rd (w.alloc (.cells #[] 5)) pa (bs xs) := hx.rd.keep ((Keep.refl [] w).alloc _) (by simp)
  have hnil := hx.hnil
  have OX := Lib.hid (bs_one xs)
  go_enter Try.func93, Try.ntmps93
  go_upto_region 2 with (first
    | (refine wpList_appendS rfl (.tmp 6) (.tmp 7) 22 rfl 5 (.int .u8 0) 1 1 Try.underlying22 info5 rfl (by omega) (.slice (some ⟨w.heap.size, 0, none⟩) 0 0) 0 [] rfl S0 pa n cap (bs xs) rfl (by rw [bs_length, HL.out, Nat.mul_one]) hnil hrx OX.out (by simp only [maxLen]; omega) (by omega) ?_; intro v1 w1 hs1 hk1 hb1)
    | fail)
  rw [List.nil_append, Nat.zero_add] at hs1
  have k1 : Keep [] w w1 := ((Keep.refl [] w).alloc _).trans hk1 (by simp [blks, Value.ownBlock])
  have o1 : ∀ b ∈ blks v1, w.heap.size ≤ b := by
    intro b hb
    rcases hb1 with e | e
    · rw [e] at hb; simp [blks, Value.ownBlock] at hb; omega
    · have := e b hb; simp at this; omega
  have O128 := Lib.hid (show ∀ u ∈ [Value.int .u8 128], u.oneCell' = true by simp [Value.oneCell'])
  have S1 : Sl (w1.alloc (.cells #[Value.int .u8 128] 5)) 5 1 v1 n (bs xs) := hs1.keep ((Keep.refl [] w1).alloc _) (by simp)
  have R1 : Rd (w1.alloc (.cells #[Value.int .u8 128] 5)) (some ⟨w1.heap.size, 0, none⟩) [Value.int .u8 128] := Rd.made w1 _ 5 (0, 0) _ _ rfl rfl
  clear hs1 hk1 hb1 S0 hrx
  go_upto_region 3 with (first
    | (refine wpList_appendS rfl (.tmp 9) (.tmp 10) 22 rfl 5 (.int .u8 0) 1 1 Try.underlying22 info5 rfl (by omega) v1 n (bs xs) rfl S1 (some ⟨w1.heap.size, 0, none⟩) 1 1 [Value.int .u8 128] rfl rfl (by simp) R1 O128.out (by simp only [maxLen]; omega) (by omega) ?_; intro v2 w2 hs2 hk2 hb2)
    | fail)
  have hs2' : Sl w2 5 1 v2 (n + 1 + 0) (bs (xs ++ [128] ++ List.replicate 0 0)) := by
    have e : bs (xs ++ [128] ++ List.replicate 0 0) = bs xs ++ [Value.int .u8 128] := by simp [bs]
    rw [e]; exact hs2
  have k2 : Keep [] w w2 := (k1.alloc _).trans hk2 (fun b hb => Or.inr (o1 b hb))
  have o2 : ∀ b ∈ blks v2, w.heap.size ≤ b := by
    intro b hb
    have := k1.size
    rcases hb2 with e | e
    · rw [e] at hb; exact o1 b hb
    · have := e b hb; simp at this; omega
  clear hs2 hk2 hb2 S1 R1 o1 k1
  go_loopw [3] (fun v wr => ∃ z, z ≤ padz n ∧ Sl wr 5 1 v (n + 1 + z) (bs (xs ++ [128] ++ List.replicate z 0)) ∧ (∀ b ∈ blks v, w.heap.size ≤ b) ∧ Keep [] w wr) (fun v _ => fillLen v)
  case atStart => exact ⟨0, by omega, hs2', o2, k2⟩
  case round =>
    clear hs2' o2 k2
    obtain ⟨z, hz, hS, ho, hk⟩ := hrel
    obtain ⟨a, cp, rfl, -, -, hcap1, hcap2, -⟩ := hS.form
    have hz64 := padz_lt n
    obtain ⟨m, hm⟩ : ∃ m, n + 1 + z = m := ⟨_, rfl⟩
    rw [hm] at hS hcap1 ho ⊢
    obtain ⟨r, hr⟩ : ∃ r, m % 64 = r := ⟨_, rfl⟩
    have d2 : (m : Int).tmod 64 = r := by rw [← hr]; rfl
    have d3 : (m : Int) % 64 = r := by omega
    have hml : m + 32 ≤ 140737488355328 := by omega
    have HS := Lib.hid hS
    have HO := Lib.hid ho
    have HM := Lib.hid hm
    have HR := Lib.hid hr
    by_cases hq : r = 56
    · subst hq
      have hzz : z = padz n := padz_only hz (by omega)
      have hq2 : ((56 : Int) == 56) = true := rfl
      have hq3 : ((56 : Int) != 56) = false := rfl
      obtain ⟨B, hB⟩ : ∃ B, xs ++ [128] ++ List.replicate z 0 = B := ⟨_, rfl⟩
      rw [hB] at hS
      have hpad : B ++ be8 n = pad xs := by rw [← hB, hzz, ← HL.out, pad]; simp
      have hpl : (pad xs).length = m + 8 := by rw [← hpad, List.length_append, be8_length, ← hB]; simp [HL.out]; omega
      have u8' : IntKind.i64.wrap (8 * (n : Int)) = 8 * n := IntWalk.i64_in _ (by omega)
      have HPAD := Lib.hid hpad
      have HPL := Lib.hid hpl
      clear HS hB hpad hpl hz hzz hz64 hm hr
      go_wp2_with fail
      go_loopw [3, 5] (fun v v5 wr => ∃ j, j ≤ 8 ∧ v5 = .int .i64 (7 - (j : Nat)) ∧ Sl wr 5 1 v (m + j) (bs (B ++ (be8 n).take j)) ∧ (∀ b ∈ blks v, w.heap.size ≤ b) ∧ Keep [] w wr) (fun _ v5 _ => (intOf v5 + 1).toNat)
      case atStart => exact ⟨0, by omega, rfl, by simpa using hS, ho, hk⟩
      case round =>
        clear hS ho hk HO
        obtain ⟨j, hj, rfl, hS, ho, hk⟩ := hrel
        by_cases hlt : j < 8
        · obtain ⟨a4, c4, rfl, -, -, hcap3, hcap4, -⟩ := hS.form
          have g1 : (0 : Int) ≤ 7 - j := by omega
          have g1' : decide ((0 : Int) ≤ 7 - j) = true := by simp; omega
          have g2 : IntKind.i64.wrap (8 * (7 - (j : Int))) = 8 * (7 - j) := IntWalk.i64_in _ (by omega)
          have g3 : (8 * (7 - (j : Int))).toNat = 56 - 8 * j := by omega
          have g4 : (0 : Int) ≤ 8 * (7 - j) := by omega
          have g5 : (8 : Int) * (7 - j) ≤ 64 := by omega
          have g6 : IntKind.i64.wrap (7 - (j : Int) - 1) = 7 - j - 1 := IntWalk.i64_in _ (by omega)
          have hv := be8_value (n := n) (T8 := 8 * (n : Int)) hlt (by omega)
          have O1 := Lib.hid (show ∀ u ∈ [Value.int .u8 (8 * (n : Int) / 2 ^ (56 - 8 * j) % 256)], u.oneCell' = true by simp [Value.oneCell'])
          have S1 : Sl (wr.alloc (.cells #[Value.int .u8 (8 * (n : Int) / 2 ^ (56 - 8 * j) % 256)] 5)) 5 1 (.slice a4 (m + j) c4) (m + j) (bs (B ++ (be8 n).take j)) := hS.keep ((Keep.refl [] wr).alloc _) (by simp)
          have R1 : Rd (wr.alloc (.cells #[Value.int .u8 (8 * (n : Int) / 2 ^ (56 - 8 * j) % 256)] 5)) (some ⟨wr.heap.size, 0, none⟩) [Value.int .u8 (8 * (n : Int) / 2 ^ (56 - 8 * j) % 256)] := Rd.made wr _ 5 (0, 0) _ _ rfl rfl
          have HO := Lib.hid ho
          have HV := Lib.hid hv
          clear hS ho hv
          go_wp2_with (first
            | (refine wpList_appendS rfl (.tmp 26) (.tmp 32) 22 rfl 5 (.int .u8 0) 1 1 Try.underlying22 info5 rfl (by omega) (.slice a4 (m + j) c4) (m + j) _ rfl S1 (some ⟨wr.heap.size, 0, none⟩) 1 1 [Value.int .u8 (8 * (n : Int) / 2 ^ (56 - 8 * j) % 256)] rfl rfl (by simp) R1 O1.out (by simp only [maxLen]; omega) (by omega) ?_; intro v3 w3 hs3 hk3 hb3)
            | fail)
          refine ⟨⟨j + 1, by omega, by congr 1; omega, ?_, ?_, (hk.alloc _).trans hk3 (fun b hb => Or.inr (HO.out b hb))⟩, by simp [intOf]; omega⟩
          · rw [HV.out] at hs3
            have e : (be8 n).take (j + 1) = (be8 n).take j ++ [UInt8.ofNat (8 * n / 2 ^ (56 - 8 * j))] := by
              rw [List.take_add_one, be8_get hlt]; rfl
            rw [e, ← List.append_assoc, bs_append, show m + (j + 1) = m + j + 1 by omega]
            exact hs3
          · intro b hb
            have := hk.size
            rcases hb3 with e | e
            · rw [e] at hb; exact HO.out b hb
            · have := e b hb; simp at this; omega
        · obtain rfl : j = 8 := by omega
          have g1 : ¬ (0 : Int) ≤ 7 - 8 := by omega
          go_wp2_with fail
          go_returns
          rw [List.take_of_length_le (by rw [be8_length]; omega), HPAD.out, ← HPL.out] at hS
          exact ⟨_, rfl, hS, ho, hk⟩
    · have hq1 : ¬ (r : Int) = 56 := by omega
      have hq2 : ((r : Int) == 56) = false := by simpa using hq1
      have hq3 : ((r : Int) != 56) = true := by simpa using hq1
      have O0 := Lib.hid (show ∀ u ∈ [Value.int .u8 0], u.oneCell' = true by simp [Value.oneCell'])
      have S1 : Sl (wr.alloc (.cells #[Value.int .u8 0] 5)) 5 1 (.slice a m cp) m (bs (xs ++ [128] ++ List.replicate z 0)) := hS.keep ((Keep.refl [] wr).alloc _) (by simp)
      have R1 : Rd (wr.alloc (.cells #[Value.int .u8 0] 5)) (some ⟨wr.heap.size, 0, none⟩) [Value.int .u8 0] := Rd.made wr _ 5 (0, 0) _ _ rfl rfl
      clear hS ho hm hr hz64
      go_wp2_with (first
        | (refine wpList_appendS rfl (.tmp 16) (.tmp 17) 22 rfl 5 (.int .u8 0) 1 1 Try.underlying22 info5 rfl (by omega) (.slice a m cp) m _ rfl S1 (some ⟨wr.heap.size, 0, none⟩) 1 1 [Value.int .u8 0] rfl rfl (by simp) R1 O0.out (by simp only [maxLen]; omega) (by omega) ?_; intro v3 w3 hs3 hk3 hb3)
        | fail)
      obtain ⟨a3, c3, rfl, -, -, -, -, -⟩ := hs3.form
      refine ⟨⟨z + 1, ?_, ?_, ?_, (hk.alloc _).trans hk3 (fun b hb => Or.inr (HO.out b hb))⟩, ?_⟩
      · have h1 := padz_at n
        have h2 := HM.out
        have h3 := HR.out
        rcases Nat.lt_or_ge z (padz n) with h | h
        · exact h
        · exfalso
          have : z = padz n := by omega
          subst this
          omega
      · have h2 := HM.out
        rw [show n + 1 + (z + 1) = m + 1 by omega, List.replicate_succ', ← List.append_assoc, bs_append]
        exact hs3
      · intro b hb
        have := hk.size
        rcases hb3 with e | e
        · rw [e] at hb; exact HO.out b hb
        · have := e b hb; simp at this; omega
      · have h3 := HR.out
        simp only [fillLen]
        omega
end Go.Proofs.Ytpocegdlobnhaaa.Dig
