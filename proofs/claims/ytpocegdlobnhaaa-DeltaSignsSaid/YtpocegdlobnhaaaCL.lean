/- The reference's Text; its reader: number. -/
import Derived.Test.YtpocegdlobnhaaaCK
set_option linter.unusedVariables false
set_option linter.unusedSimpArgs false
set_option maxRecDepth 100000
namespace Go.Proofs.Ytpocegdlobnhaaa.Cod
open Go.RowKit

theorem textB_len (xs : List UInt8) (h : xs.length ≤ 2147483647) : (textB xs).length ≤ xs.length + 5 := by
  have := (numB_len5 h).2
  rw [textB, List.length_append]; omega
set_option maxHeartbeats 2000000 in
theorem refText_any (a : Option Addr) (n c : Nat) (xs : List UInt8) (w : World) (hl : xs.length = n) (hc : a = none → c = 0) (hrd : Rd w a (bs xs)) (hn : n ≤ 2147483647) : Calls Try.prog 64 #[.slice a n c] w fun e w' => Owns w e w' (textB xs) := by
  have hN := refNumber_any n w hn
  have hnl := numB_len5 hn
  have HL := Lib.hid hl
  have hN2 : ∀ e w1, Owns w e w1 (numB n) → ∃ a1 m c1, e = .returned (.slice a1 m c1) ∧ m ≤ 5 ∧ Hid ((numB n).length = m) ∧ Sl w1 5 1 (.slice a1 m c1) m (bs (numB n)) ∧ Fr w [] (blks (.slice a1 m c1)) ∧ Keep [] w w1 := by
    rintro e w1 ⟨a1, c1, h1, h2, h3, h4⟩
    exact ⟨a1, _, c1, h1, hnl.2, rfl, h2, h3, h4⟩
  have HN2 := Lib.hid hN2
  clear hl hN2 hnl
  go_enter Try.func64, Try.ntmps64
  go_wp2_with (first
    | (go_at_call 62; refine hN.mono ?_; intro e w1 ho; obtain ⟨a1, m, c1, rfl, hm, hml, hs, hf, hk⟩ := HN2.out _ _ ho; have hr1 := hrd.keep hk (by simp))
    | (at_builtin; go_must (refine wpList_appendN rfl (.tmp 7) (.tmp 8) 22 rfl 5 (.int .u8 0) 1 1 Try.underlying22 info5 rfl (by omega) (.slice a1 m c1) m (bs (numB n)) rfl hs a n c (bs xs) rfl (by rw [bs_length, HL.out, Nat.mul_one]) hc hr1 (bs_one xs) (by simp only [maxLen]; omega) (by omega) ?_; intro a2 c2 w2 hs2 hk2 hf2))
    | fail)
  go_returns
  have hlen : (textB xs).length = m + n := by rw [textB, List.length_append, HL.out, hml.out]
  refine ⟨a2, c2, by rw [hlen]; rfl, ?_, ?_, hk.trans hk2 hf⟩
  · rw [hlen, textB, HL.out, bs_append]; exact hs2
  · rw [hlen]; exact hf.trans hf2 hk.size

set_option maxHeartbeats 2000000 in
set_option maxRecDepth 100000 in
theorem refNum_any (a : Option Addr) (n c A : Nat) (d : List UInt8) (w : World) (hl : d.length = n) (hn : n ≤ 140737488355328) (hA : A ≤ n) (hrd : Rd w a (bs d)) :
    Calls Try.prog 97 #[.slice a n c, .int .i64 A] w fun e w' => e = .returned (.tuple #[.int .i64 (numP (d.drop A)).1, .int .i64 (numP (d.drop A)).2.1, .int .i64 (numP (d.drop A)).2.2]) ∧ w' = w := by
  have HL := Lib.hid hl
  obtain ⟨pw, hpw⟩ : ∃ f : Nat → Nat, ∀ i, 128 ^ i = f i := ⟨fun i => 128 ^ i, fun _ => rfl⟩
  have hp0 : pw 0 = 1 := by rw [← hpw]
  have HP0 := Lib.hid hp0
  have HPW := Lib.hid hpw
  obtain ⟨l, hll⟩ : ∃ l, d.drop A = l := ⟨_, rfl⟩
  have hlg : ∀ i, l[i]? = d[A + i]? := fun i => by rw [← hll, List.getElem?_drop]
  rw [hll]
  have HG := Lib.hid hlg
  clear hl hpw hp0 hlg hll
  go_enter Try.func97, Try.ntmps97
  go_wp2_with fail
  go_loop [7, 8, 9] (fun v7 v8 v9 => ∃ i v : Nat, v7 = .int .i64 v ∧ v8 = .int .i64 (pw i : Nat) ∧ v9 = .int .i64 i ∧ i ≤ 5 ∧ v < pw i ∧ Hid (numP l = numGo l (5 - i) i v)) (fun _ _ v9 => 5 - (intOf v9).toNat)
  case atStart => exact ⟨0, 0, rfl, by rw [HP0.out]; rfl, rfl, by omega, by rw [HP0.out]; omega, Lib.hid rfl⟩
  case round =>
    obtain ⟨i, v, rfl, rfl, rfl, hi, hv, HP⟩ := hrel
    by_cases h5 : i = 5
    · subst h5
      go_wp2_with fail
      go_returns
      refine ⟨?_, rfl⟩
      rw [HP.out]; rfl
    · have hi4 : i ≤ 4 := by omega
      have hpi : pw i ≤ 268435456 := by
        rw [← HPW.out]; exact Nat.le_trans (Nat.pow_le_pow_right (by omega) hi4) (by decide)
      have hpn := Lib.hid (show pw (i + 1) = pw i * 128 by rw [← HPW.out, ← HPW.out, Nat.pow_succ])
      by_cases hlt : n ≤ A + i
      · have hstep : numGo l (5 - i) i v = (0, 0, 10) := by
          obtain ⟨k, hk⟩ : ∃ k, 5 - i = k + 1 := ⟨4 - i, by omega⟩
          rw [hk, numGo, HG.out, List.getElem?_eq_none (by have := HL.out; omega)]
        have HS := Lib.hid hstep
        clear hstep h5
        go_wp2_with fail
        go_returns
        refine ⟨?_, rfl⟩
        rw [HP.out, HS.out]; rfl
      · obtain ⟨x, hx⟩ : ∃ x, d[A + i]? = some x := ⟨_, List.getElem?_eq_getElem (by have := HL.out; omega)⟩
        obtain ⟨b, off, rfl, hcell⟩ := hrd.byte (k := A + i) (by have := HL.out; omega)
        have hxx : d[A + i]'(by have := HL.out; omega) = x := by
          rw [List.getElem?_eq_getElem (by have := HL.out; omega)] at hx; exact Option.some.inj hx
        rw [hxx] at hcell
        have hstep : numGo l (5 - i) i v = (if x.toNat < 128 then (if v + x.toNat * 128 ^ i > 2147483647 ∨ (0 < i ∧ x = 0) then (0, 0, 11) else (v + x.toNat * 128 ^ i, i + 1, 0)) else numGo l (5 - (i + 1)) (i + 1) (v + x.toNat % 128 * 128 ^ i)) := by
          obtain ⟨k, hk⟩ : ∃ k, 5 - i = k + 1 := ⟨4 - i, by omega⟩
          rw [hk, numGo, HG.out, hx, show 5 - (i + 1) = k by omega]
        rw [HPW.out] at hstep
        have HS := Lib.hid hstep
        have hx8 : x.toNat < 256 := x.toNat_lt
        obtain ⟨p, hp⟩ : ∃ p : Nat, x.toNat % 128 * pw i = p := ⟨_, rfl⟩
        have hp2 : p ≤ 127 * 268435456 := by rw [← hp]; exact Nat.mul_le_mul (by omega) hpi
        have hvp : v + p < pw (i + 1) := by
          rw [hpn.out, ← hp]
          have : (x.toNat % 128 + 1) * pw i ≤ 128 * pw i := Nat.mul_le_mul_right _ (by omega)
          rw [Nat.add_mul, Nat.one_mul] at this
          omega
        have hpI : ((x.toNat : Int) % 128) * (pw i : Int) = p := by rw [← hp]; push_cast; rfl
        have hw1 : IntKind.i64.wrap (((x.toNat : Int) % 128) * (pw i : Int)) = p := by rw [hpI]; exact IntWalk.i64_in _ (by omega)
        have hw2 : wrap64 (((x.toNat : Int) % 128) * (pw i : Int)) = p := by rw [hpI]; exact IntWalk.wrap64_in _ ⟨by omega, by omega⟩
        have hv2 : v ≤ 268435456 := by omega
        have HPP := Lib.hid hp
        have HVP := Lib.hid hvp
        have HV := Lib.hid hv
        have hai : ¬ ((n : Int) ≤ (A : Int) + i) := by omega
        have hai2 : ((A : Int) + i).toNat = A + i := by omega
        clear hstep hx hxx h5 hp hvp hv hpI hlt
        by_cases hc : x.toNat < 128
        · have hres : numP l = if 2147483647 < v + p ∨ (0 < i ∧ x = 0) then (0, 0, 11) else (v + p, i + 1, 0) := by
            have e : x.toNat * pw i = p := by rw [← HPP.out, Nat.mod_eq_of_lt hc]
            rw [HP.out, HS.out, if_pos hc, e]
          have HR := Lib.hid hres
          clear hres
          by_cases c3 : x = 0
          · by_cases c2 : 0 < i
            · have c4 : ((x.toNat : Int) == 0) = true := by rw [c3]; rfl
              have hne := HR.out
              rw [if_pos (Or.inr ⟨c2, c3⟩)] at hne
              have HR := Lib.hid hne
              clear hne c3
              go_wp2_with fail
              go_returns
              refine ⟨?_, rfl⟩
              rw [HR.out]; rfl
            · have c4 : ((x.toNat : Int) == 0) = true := by rw [c3]; rfl
              have hv0 : v + p ≤ 2147483647 := by
                have h1 := HV.out
                have h2 := HPP.out
                have h3 : i = 0 := by omega
                rw [h3, HP0.out] at h1
                rw [c3] at h2
                simp at h2
                omega
              have hne := HR.out
              rw [if_neg (by rintro (h | h); omega; exact c2 h.1)] at hne
              have HR := Lib.hid hne
              clear hne c3
              go_wp2_with fail
              go_returns
              refine ⟨?_, rfl⟩
              rw [HR.out]; rfl
          · have c4 : ((x.toNat : Int) == 0) = false := by
              simp only [beq_eq_false_iff_ne, ne_eq]
              intro h; exact c3 (UInt8.toNat_inj.1 (by simp; omega))
            by_cases c1 : 2147483647 < v + p
            · have hne := HR.out
              rw [if_pos (Or.inl c1)] at hne
              have HR := Lib.hid hne
              clear hne c3
              go_wp2_with fail
              go_returns
              refine ⟨?_, rfl⟩
              rw [HR.out]; rfl
            · have hne := HR.out
              rw [if_neg (by rintro (h | h); exact c1 h; exact c3 h.2)] at hne
              have HR := Lib.hid hne
              clear hne c3
              go_wp2_with fail
              go_returns
              refine ⟨?_, rfl⟩
              rw [HR.out]; rfl
        · have hne := HS.out
          rw [if_neg hc, HPP.out] at hne
          have HS := Lib.hid hne
          clear hne
          go_wp2_with fail
          refine ⟨⟨i + 1, v + p, by go_num, by rw [hpn.out]; push_cast; rfl, by go_num, by omega, HVP.out, Lib.hid (HP.out.trans HS.out)⟩, by simp [intOf]; omega⟩
end Go.Proofs.Ytpocegdlobnhaaa.Cod
