/- roomyRow, untouchedRow: a row with marks behind its end. -/
import Derived.Test.YtlpinbkgbnbkhaaZ
set_option linter.unusedVariables false
set_option linter.unusedSimpArgs false
namespace Go.Proofs.Ytlpinbkgbnbkhaa
open Go.RowKit

def marks (k : Nat) : List UInt8 := List.replicate k 99
/-- A row with 160 marks behind its end. -/
def Roomy (w : World) (a : Option Addr) (n c : Nat) (xs : List UInt8) : Prop := Sl w 5 1 (.slice a (n + 160) c) (n + 160) (bs (xs ++ marks 160))
theorem marks_next (k : Nat) : marks (k + 1) = marks k ++ [99] := by simp [marks, List.replicate_succ']
theorem marks_at {k j : Nat} (h : j < k) : (bs (marks k))[j]? = some (Value.int .u8 99) := by
  simp [bs, marks, List.getElem?_replicate, h]
theorem marks_ne {k : Nat} (h : 0 < k) (xs : List UInt8) : bs (xs ++ marks k) ≠ [] := by
  intro e
  have := congrArg List.length e
  rw [bs_length, List.length_append, marks, List.length_replicate] at this
  simp at this; omega
theorem Roomy.some {w : World} {a : Option Addr} {n c : Nat} {xs : List UInt8} (h : Roomy w a n c xs) : ∃ g off, a = some ⟨g, off, none⟩ := by
  obtain ⟨h1, h2, h3, h4, h5⟩ := Sl.use h
  rcases Sl.parts h with ⟨h6, h7⟩ | h6
  · omega
  · exact h6

set_option maxHeartbeats 4000000 in
set_option maxRecDepth 100000 in
theorem roomyRow_any (a : Option Addr) (n cap : Nat) (xs : List UInt8) (w : World) (hx : InBytes w a n cap xs) (hn : n ≤ 3000000) :
    Calls Try.prog 28 #[.slice a n cap] w fun e w' => ∃ a' c', e = .returned (.slice a' n c') ∧ Roomy w' a' n c' xs ∧ Fr w [] (blks (.slice a' n c')) ∧ Keep [] w w' := by
  obtain ⟨Z, hZ, hmk0⟩ := make0 (n + 160) (by omega)
  have hmk : ∀ w, (Instr.makeSlice 29 (.int .i64 0) (.int .i64 ((n : Int) + 160))).run Try.prog w = .ok (.slice (some ⟨w.heap.size, 0, none⟩) 0 (n + 160)) (w.alloc (.cells Z 5)) := fun w => by
    have := hmk0 w; rw [show ((n + 160 : Nat) : Int) = (n : Int) + 160 by omega] at this; exact this
  have S0 : Sl (w.alloc (.cells Z 5)) 5 1 (.slice (some ⟨w.heap.size, 0, none⟩) 0 (n + 160)) 0 [] := Sl.room _ 5 Z (n + 160) _ rfl hZ (by simp only [maxLen]; omega)
  have k0 : Keep [] w (w.alloc (.cells Z 5)) := (Keep.refl [] w).alloc _
  have f0 : Fr w [] (blks (.slice (some ⟨w.heap.size, 0, none⟩) 0 (n + 160))) := Fr.new (w' := w) (by intro b hb; simp [blks, Value.ownBlock] at hb; omega)
  have hrx := hx.rd.keep k0 (by simp)
  have HL := Lib.hid hx.hlen
  have hnil := hx.hnil
  obtain ⟨G, hG⟩ : ∃ G, w.heap.size = G := ⟨_, rfl⟩
  obtain ⟨w0, hw0⟩ : ∃ w0, w.alloc (.cells Z 5) = w0 := ⟨_, rfl⟩
  rw [hG] at S0 f0
  rw [hw0] at S0 k0 hrx
  clear hmk0 hZ
  go_enter Try.func28, Try.ntmps28
  go_upto_region 2 with (first
    | (at_builtin; go_must (refine wpList_appendN rfl (.tmp 8) (.tmp 9) 29 rfl 5 (.int .u8 0) 1 1 Try.underlying29 info5 rfl (by omega) (.slice (some ⟨G, 0, none⟩) 0 (n + 160)) 0 [] rfl S0 a n cap (bs xs) rfl (by rw [bs_length, HL.out, Nat.mul_one]) hnil hrx (bs_one xs) (by simp only [maxLen]; omega) (by omega) ?_; intro a1 c1 w1 hs1 hk1 hf1))
    | fail)
  rw [List.nil_append, Nat.zero_add] at hs1
  simp only [Nat.zero_add] at hf1
  have k1 : Keep [] w w1 := k0.trans hk1 (fun b hb => Or.inr (f0.out b hb))
  have f1 : Fr w [] (blks (.slice a1 n c1)) := f0.trans hf1 k0.size
  clear hmk hG hw0 S0 f0 k0 hk1 hf1 hrx
  go_wp2_with fail
  go_loopw [3, 4] (fun v3 v4 wr => ∃ (k : Nat) (a' : Option Addr) (c' : Nat), k ≤ 160 ∧ v4 = .int .i64 (k : Nat) ∧ v3 = .slice a' (n + k) c' ∧ Sl wr 5 1 (.slice a' (n + k) c') (n + k) (bs (xs ++ marks k)) ∧ Fr w [] (blks (.slice a' (n + k) c')) ∧ Keep [] w wr) (fun _ v4 _ => 160 - (intOf v4).toNat)
  case atStart => exact ⟨0, a1, c1, by omega, rfl, by simp, by simpa [marks] using hs1, f1, k1⟩
  case round =>
    clear hs1 f1 k1
    obtain ⟨k, a', c', hk, rfl, rfl, hS, hF, hkw⟩ := hrel
    by_cases hlt : k < 160
    · have hv : bs (xs ++ marks k) ++ [Value.int .u8 99] = bs (xs ++ marks (k + 1)) := by
        rw [marks_next, ← List.append_assoc, bs_append (xs ++ marks k)]; rfl
      have HV := Lib.hid hv
      clear hv
      go_wp2_with (first
        | (at_builtin; go_must (refine wpList_append1 wr rfl (.tmp 15) (.tmp 16) 29 rfl 5 (.int .u8 0) 1 Try.underlying29 info5 rfl (.int .u8 99) rfl (.slice a' (n + k) c') (n + k) (bs (xs ++ marks k)) rfl hS rfl (by simp only [maxLen]; omega) (by omega) ?_; intro a2 c2 w6 hs1 hk1 hf1))
        | fail)
      rw [HV.out] at hs1
      exact ⟨⟨k + 1, a2, c2, by omega, by go_num, rfl, hs1, hF.trans hf1 hkw.size, hkw.trans hk1 (fun b hb => Or.inr (hF.out b hb))⟩, by simp [intOf]; omega⟩
    · obtain rfl : k = 160 := by omega
      obtain ⟨g, off, rfl⟩ := Roomy.some (show Roomy wr a' n c' xs from hS)
      have hle : n + 160 ≤ c' := (Sl.use hS).2.2.2.1
      have hmx : c' ≤ maxLen := (Sl.use hS).2.2.2.2
      simp only [maxLen] at hmx
      go_wp2_with fail
      go_returns
      exact ⟨_, c', rfl, hS, hF, hkw⟩

set_option maxHeartbeats 4000000 in
set_option maxRecDepth 100000 in
theorem untouchedRow_any (a : Option Addr) (n c : Nat) (xs : List UInt8) (b : Option Addr) (m cap : Nat) (w : World) (hx : Roomy w a n c xs) (hb : InBytes w b m cap xs) (hn : m ≤ 3000000) (hnm : n = m) :
    Calls Try.prog 30 #[.slice a n c, .slice b m cap] w fun e w' => e = .returned (.bool true) ∧ ∃ k, w' = w.drewN k := by
  subst hnm
  obtain ⟨g, off, rfl⟩ := hx.some
  obtain ⟨h1, h2, hrd, hle, hmx⟩ := Sl.use hx
  simp only [maxLen] at hmx
  have hrd1 : Rd w (some ⟨g, off, none⟩) (bs xs) := by
    rcases hrd with h | ⟨b', off', e, h⟩
    · exact absurd h (marks_ne (by omega) xs)
    · refine Or.inr ⟨b', off', e, fun j v hv => h j v ?_⟩
      rw [bs_append, List.getElem?_append_left]
      · exact hv
      · exact (List.getElem?_eq_some_iff.1 hv).1
  have hcell : ∀ j, n ≤ j → j < n + 160 → w.cell? ⟨g, off + j, none⟩ = some (.int .u8 99) := fun j hj1 hj2 => by
    rcases hrd with h | ⟨b', off', e, h⟩
    · exact absurd h (marks_ne (by omega) xs)
    · cases e
      refine h j _ ?_
      rw [bs_append, List.getElem?_append_right (by rw [bs_length, hb.hlen]; exact hj1), bs_length, hb.hlen]
      exact marks_at (by omega)
  have C1 := same_any (some ⟨g, off, none⟩) b n n c cap xs xs w hb.hlen hb.hlen (by omega) hrd1 hb.rd
  have e1 : (xs == xs) = true := by simp
  rw [e1] at C1
  have HC := Lib.hid hcell
  clear hcell hrd hrd1 hx e1
  go_enter Try.func30, Try.ntmps30
  go_upto_region 5 with (first
    | (go_at_call 42; refine C1.mono ?_; rintro e w1 ⟨rfl, k1, rfl⟩)
    | fail)
  clear C1
  go_loopw [6] (fun v6 wr => ∃ j k : Nat, n ≤ j ∧ j ≤ n + 160 ∧ v6 = .int .i64 (j : Nat) ∧ wr = w.drewN k) (fun v6 _ => n + 160 - (intOf v6).toNat)
  case atStart => exact ⟨n, k1, by omega, by omega, rfl, rfl⟩
  case round =>
    obtain ⟨j, k, hj1, hj2, rfl, rfl⟩ := hrel
    by_cases hlt : j < n + 160
    · have cell := HC.out j hj1 hlt
      go_wp2_with fail
      exact ⟨⟨j + 1, k, by omega, by omega, by go_num, rfl⟩, by simp [intOf]; omega⟩
    · go_wp2_with fail
      go_returns
      exact ⟨rfl, k, rfl⟩
end Go.Proofs.Ytlpinbkgbnbkhaa
