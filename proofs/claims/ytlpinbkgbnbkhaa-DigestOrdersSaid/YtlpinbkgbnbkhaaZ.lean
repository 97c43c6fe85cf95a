/- much, joined: rows of an argument that is rows. -/
import Derived.Test.YtlpinbkgbnbkhaaY
set_option linter.unusedVariables false
set_option linter.unusedSimpArgs false
namespace Go.Proofs.Ytlpinbkgbnbkhaa
open Go.RowKit

/-- A row of an argument that is rows. -/
theorem InRows.at {w : World} {a : Option Addr} {l cap i : Nat} {xss : List (List UInt8)} (h : InRows w a l cap xss) (hi : i < l) : ∃ xs b off ai li ci, xss[i]? = some xs ∧ a = some ⟨b, off, none⟩ ∧ w.cell? ⟨b, off + i, none⟩ = some (.slice ai li ci) ∧ InBytes w ai li ci xs := by
  have hl := h.hlen
  obtain ⟨vs, h1, h2, h3⟩ := h.rows
  obtain ⟨ai, li, ci, g1, g2⟩ := h3 i (by omega)
  rcases h2 with h2 | ⟨b, off, h2, hcell⟩
  · subst h2; simp at g1
  · exact ⟨_, b, off, ai, li, ci, List.getElem?_eq_getElem (by omega), h2, hcell _ _ g1, g2⟩
theorem InRows.keep {w w' : World} {a : Option Addr} {l cap : Nat} {xss : List (List UInt8)} (h : InRows w a l cap xss) (k : Keep [] w w') : InRows w' a l cap xss := by
  obtain ⟨vs, h1, h2, h3⟩ := h.rows
  refine ⟨h.hlen, ⟨vs, h1, h2.keep k (by simp), fun i hi => ?_⟩, h.hle, h.hnil, h.reach⟩
  obtain ⟨ai, li, ci, g1, g2⟩ := h3 i hi
  exact ⟨ai, li, ci, g1, g2.keep k (by simp)⟩
/-- All bytes of the rows. -/
def totR (xss : List (List UInt8)) : Nat := (xss.map List.length).sum
theorem totR_take {xss : List (List UInt8)} {i : Nat} {x : List UInt8} (h : xss[i]? = some x) : totR (xss.take (i + 1)) = totR (xss.take i) + x.length := by
  rw [List.take_add_one, h]; simp [totR]
theorem totR_le (xss : List (List UInt8)) (i : Nat) : totR (xss.take i) ≤ totR xss := by
  have : totR xss = totR (xss.take i) + totR (xss.drop i) := by
    unfold totR
    rw [← List.sum_append, ← List.map_append, List.take_append_drop]
  omega
theorem flatten_len (xss : List (List UInt8)) : xss.flatten.length = totR xss := by rw [List.length_flatten]; rfl
theorem flatten_take {xss : List (List UInt8)} {i : Nat} {x : List UInt8} (h : xss[i]? = some x) : (xss.take (i + 1)).flatten = (xss.take i).flatten ++ x := by
  rw [List.take_add_one, h]; simp

def MuchSaid (w : World) (k : Nat) (e : Ending) (w' : World) : Prop := ∃ mb, e = .returned (.bool mb) ∧ w' = w ∧ (mb = false → k ≤ 3000000)
set_option maxHeartbeats 2000000 in
theorem much_any (a : Option Addr) (len cap : Nat) (xss : List (List UInt8)) (w : World) (hx : InRows w a len cap xss) :
    Calls Try.prog 12 #[.slice a len cap] w (MuchSaid w (totR xss + len)) := by
  have hl := hx.hlen
  have hm : len ≤ 9223372036854775807 := by have := hx.hle; have := hx.reach; omega
  have HL := Lib.hid hl
  clear hl
  go_enter Try.func12, Try.ntmps12
  go_wp2_with fail
  go_loop [3, 4] (fun v3 v4 => ∃ i t : Nat, i ≤ len ∧ v4 = .int .i64 i ∧ v3 = .int .i64 t ∧ t ≤ 3000000 ∧ Hid (totR (xss.take i) + i = t)) (fun _ v4 => len - (intOf v4).toNat)
  case atStart => exact ⟨0, 0, by omega, rfl, rfl, by omega, Lib.hid rfl⟩
  case round =>
    obtain ⟨i, t, hi, rfl, rfl, ht, HT⟩ := hrel
    by_cases hlt : i < len
    · obtain ⟨x, b, off, ai, li, ci, hc, rfl, d0, hin⟩ := hx.at hlt
      have hre := hin.reach
      have hle := hin.hle
      have HN := Lib.hid (show totR (xss.take (i + 1)) + (i + 1) = t + 1 + li by rw [totR_take hc]; have := HT.out; have := hin.hlen; omega)
      clear hc
      by_cases hb1 : 3000000 < li
      · go_wp2_with fail
        go_returns
        exact ⟨true, rfl, rfl, by simp⟩
      · by_cases hbig : 3000000 < t + 1 + li
        · go_wp2_with fail
          go_returns
          exact ⟨true, rfl, rfl, by simp⟩
        · go_wp2_with fail
          exact ⟨⟨i + 1, t + 1 + li, by omega, by go_num, by go_num, by omega, HN⟩, by simp [intOf]; omega⟩
    · go_wp2_with fail
      go_returns
      refine ⟨false, rfl, rfl, fun _ => ?_⟩
      have h1 := HT.out
      have h2 := HL.out
      rw [List.take_of_length_le (by omega)] at h1
      omega

set_option maxHeartbeats 4000000 in
theorem joined_any (a : Option Addr) (len cap : Nat) (xss : List (List UInt8)) (w : World) (hx : InRows w a len cap xss) (ht : totR xss ≤ 3000000) :
    Calls Try.prog 17 #[.slice a len cap] w fun e w' => ∃ a' n c, e = .returned (.slice a' n c) ∧ n = xss.flatten.length ∧ Sl w' 5 1 (.slice a' n c) n (bs xss.flatten) ∧ Fr w [] (blks (.slice a' n c)) ∧ Keep [] w w' := by
  have hl := hx.hlen
  have hm : len ≤ 9223372036854775807 := by have := hx.hle; have := hx.reach; omega
  have HL := Lib.hid hl
  clear hl
  have S0 : Sl (w.alloc (.cells #[] 5)) 5 1 (.slice (some ⟨w.heap.size, 0, none⟩) 0 0) 0 [] := Sl.made w 5 1 #[] 0 _ rfl rfl (by simp [maxLen])
  have k0 : Keep [] w (w.alloc (.cells #[] 5)) := (Keep.refl [] w).alloc _
  have f0 : Fr w [] (blks (.slice (some ⟨w.heap.size, 0, none⟩) 0 0)) := Fr.new (w' := w) (by intro b hb; simp [blks, Value.ownBlock] at hb; omega)
  obtain ⟨G, hG⟩ : ∃ G, w.heap.size = G := ⟨_, rfl⟩
  obtain ⟨w0, hw0⟩ : ∃ w0, w.alloc (.cells #[] 5) = w0 := ⟨_, rfl⟩
  rw [hG] at S0 f0
  rw [hw0] at S0 k0
  go_enter Try.func17, Try.ntmps17
  go_wp2_with fail
  clear hG hw0
  go_loopw [3, 4] (fun v3 v4 wr => ∃ (i m : Nat) (a' : Option Addr) (c' : Nat), i ≤ len ∧ v4 = .int .i64 (i : Nat) ∧ v3 = .slice a' m c' ∧ Hid ((xss.take i).flatten.length = m) ∧ Sl wr 5 1 (.slice a' m c') m (bs (xss.take i).flatten) ∧ Fr w [] (blks (.slice a' m c')) ∧ Keep [] w wr) (fun _ v4 _ => len - (intOf v4).toNat)
  case atStart => exact ⟨0, 0, _, _, by omega, rfl, rfl, Lib.hid rfl, S0, f0, k0⟩
  case round =>
    clear S0 f0 k0
    obtain ⟨i, m, a', c', hi, rfl, rfl, HM, hS, hF, hkw⟩ := hrel
    by_cases hlt : i < len
    · obtain ⟨x, b, off, ai, li, ci, hc, rfl, d0, hin⟩ := (hx.keep hkw).at hlt
      have hl2 := hin.hlen
      have hN : (xss.take (i + 1)).flatten.length = m + li := by rw [flatten_take hc, List.length_append, HM.out, hl2]
      have hle : m + li ≤ 3000000 := by
        have := totR_le xss (i + 1)
        rw [← flatten_len (xss.take (i + 1)), hN] at this; omega
      have HN := Lib.hid hN
      have HF := Lib.hid (flatten_take hc)
      have HX := Lib.hid hl2
      clear hN hc hl2
      go_wp2_with (first
        | (at_builtin; go_must (refine wpList_appendN rfl (.tmp 12) (.tmp 16) 29 rfl 5 (.int .u8 0) 1 1 Try.underlying29 info5 rfl (by omega) (.slice a' m c') m (bs (xss.take i).flatten) rfl hS ai li ci (bs x) rfl (by rw [bs_length, HX.out, Nat.mul_one]) hin.hnil hin.rd (bs_one x) (by simp only [maxLen]; omega) (by omega) ?_; intro a1 c1 w6 hs1 hk1 hf1))
        | fail)
      rw [← bs_append, ← HF.out] at hs1
      exact ⟨⟨i + 1, m + li, a1, c1, by omega, by go_num, rfl, HN, hs1, hF.trans hf1 hkw.size, hkw.trans hk1 (fun b hb => Or.inr (hF.out b hb))⟩, by simp [intOf]; omega⟩
    · go_wp2_with fail
      go_returns
      have h2 := HL.out
      rw [List.take_of_length_le (by omega)] at hS HM
      exact ⟨a', m, c', rfl, HM.out.symm, hS, hF, hkw⟩
end Go.Proofs.Ytlpinbkgbnbkhaa
