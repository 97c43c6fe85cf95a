/- The reference's Hex. -/
import Derived.Test.YtlpinbkgbnbkhaaI
set_option linter.unusedVariables false
set_option linter.unusedSimpArgs false
namespace Go.Proofs.Ytlpinbkgbnbkhaa
open Go.RowKit

theorem ext_dig (q : Nat) (hq : q < 16) : (⟨#[48, 49, 50, 51, 52, 53, 54, 55, 56, 57, 97, 98, 99, 100, 101, 102]⟩ : ByteArray).extract q (q + 1) = strOf [dig q] := by
  have : q = 0 ∨ q = 1 ∨ q = 2 ∨ q = 3 ∨ q = 4 ∨ q = 5 ∨ q = 6 ∨ q = 7 ∨ q = 8 ∨ q = 9 ∨ q = 10 ∨ q = 11 ∨ q = 12 ∨ q = 13 ∨ q = 14 ∨ q = 15 := by omega
  rcases this with rfl | rfl | rfl | rfl | rfl | rfl | rfl | rfl | rfl | rfl | rfl | rfl | rfl | rfl | rfl | rfl <;> decide
theorem strOf_app (a b : List UInt8) : strOf a ++ strOf b = strOf (a ++ b) := by
  apply ByteArray.ext
  simp [strOf]

set_option maxHeartbeats 4000000 in
set_option maxRecDepth 100000 in
theorem refHex_any (xs : List UInt8) (w : World) (hl : xs.length = 32) :
    Calls Try.prog 25 #[.agg (bs xs).toArray] w fun e w' => e = .returned (.string (strOf (hexOf xs))) ∧ Keep [] w w' := by
  have HL := Lib.hid hl
  obtain ⟨X, hX⟩ : ∃ X, X = (bs xs).toArray := ⟨_, rfl⟩
  have hsz : X.size = 32 := by rw [hX]; exact size32 xs hl
  rw [← hX]
  have HX := Lib.hid hX
  clear hX hl
  go_enter Try.func25, Try.ntmps25
  go_wp2_with fail
  go_loopw [3, 4] (fun v3 v4 wr => ∃ i, i ≤ 32 ∧ v4 = .int .i64 (i : Nat) ∧ v3 = .string (strOf (hexOf (xs.take i))) ∧ Blk wr w.heap.size X 33 ∧ Keep [] w wr) (fun _ v _ => 32 - (intOf v).toNat)
  case atStart => exact ⟨0, by omega, rfl, rfl, Blk.new w X 33, (Keep.refl [] w).alloc _⟩
  case round =>
    obtain ⟨i, hi, rfl, rfl, hB, hkr⟩ := hrel
    by_cases hlt : i < 32
    · obtain ⟨x, hx⟩ : ∃ x, xs[i]? = some x := ⟨_, List.getElem?_eq_getElem (by rw [HL.out]; exact hlt)⟩
      have cX : wr.cell? ⟨w.heap.size, i, none⟩ = some (B8 x) := hB.cell (by rw [HX.out]; simp [bs, hx])
      have hx256 := x.toNat_lt
      obtain ⟨n, hn⟩ : ∃ n, x.toNat = n := ⟨_, rfl⟩
      have hxk : hexOf (xs.take (i + 1)) = hexOf (xs.take i) ++ [dig (n / 16)] ++ [dig (n % 16)] := by
        have : xs.take (i + 1) = xs.take i ++ [x] := by rw [List.take_add_one, hx]; rfl
        rw [this, hexOf_append, ← hn]; simp [hexOf]
      simp only [B8, hn] at cX
      obtain ⟨T, hT⟩ : ∃ T, strOf (hexOf (xs.take i)) = T := ⟨_, rfl⟩
      obtain ⟨q, hq⟩ : ∃ q, n / 16 = q := ⟨_, rfl⟩
      obtain ⟨r, hr⟩ : ∃ r, n % 16 = r := ⟨_, rfl⟩
      have d1 : (n : Int).tdiv 16 = q := by rw [← hq]; rfl
      have d2 : (n : Int).tmod 16 = r := by rw [← hr]; rfl
      have d3 : (n : Int) / 16 = q := by omega
      have d4 : (n : Int) % 16 = r := by omega
      have q16 : q < 16 := by omega
      have r16 : r < 16 := by omega
      have HT := Lib.hid hT
      have HXK := Lib.hid hxk
      have HQ := Lib.hid hq
      have HR := Lib.hid hr
      rw [hT]
      clear hn hxk hx hT hq hr
      obtain ⟨U, hU⟩ : ∃ U, strOf [dig q] = U := ⟨_, rfl⟩
      obtain ⟨V, hV⟩ : ∃ V, strOf [dig r] = V := ⟨_, rfl⟩
      have e1 := ext_dig q q16
      have e2 := ext_dig r r16
      rw [hU] at e1
      rw [hV] at e2
      have sT : T.size = 2 * i := by rw [← HT.out]; simp only [strOf, ByteArray.size, List.size_toArray, hexOf_length, List.length_take, HL.out]; omega
      have sU : U.size = 1 := by rw [← hU]; rfl
      have sV : V.size = 1 := by rw [← hV]; rfl
      have m1 : ¬ 9223372036854775807 < 2 * i + 1 := by omega
      have m2 : ¬ 9223372036854775807 < 2 * i + 1 + 1 := by omega
      have HUV : Hid (T ++ U ++ V = strOf (hexOf (xs.take (i + 1)))) := by
        show _ = _
        rw [HXK.out, ← HT.out, ← hU, ← hV, strOf_app, strOf_app, HQ.out, HR.out]
      clear hU hV
      go_upto_region 7 with fail
      go_region
      all_goals go_wp2_with fail
      all_goals exact ⟨⟨i + 1, by omega, by go_num, by rw [← HUV.out], hB, ⟨hkr.os, hkr.tape, hkr.output, hkr.size, hkr.block⟩⟩, by simp [intOf]; omega⟩
    · obtain rfl : i = 32 := by omega
      rw [List.take_of_length_le (by rw [HL.out]; omega)]
      go_wp2_with fail
      go_returns
      exact ⟨rfl, hkr⟩
end Go.Proofs.Ytlpinbkgbnbkhaa
