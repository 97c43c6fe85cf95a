/- CodeReads: a script on a Reader. -/
import Derived.Test.YtkhplfgehcljmaaAa
set_option linter.unusedVariables false
set_option linter.unusedSimpArgs false
namespace Go.Proofs.Ytkhplfgehcljmaa
open Go.RowKit

/-- A new reader of the document's. -/
theorem RefAt.new {w : World} {a : Option Addr} {l c : Nat} {d : List UInt8} (h : InBytes w a l c d) (X : Nat) (hX : X = w.heap.size) : RefAt (w.alloc (.cells #[.slice a l c, .int .i64 0, .int .i64 0, .int .i64 0] 53)) X a c d ⟨0, 0, 0⟩ := by
  have hl := h.hlen
  subst hl
  subst hX
  exact ⟨Blk.new w _ 53, h.keep ((Keep.refl [] w).alloc _) (by simp), by simp, fun hd => by have := h.blk hd; omega⟩

/-- The loop's end: known. -/
structure Reading (w wr : World) (P X : Nat) (S : List Nat) (a : Option Addr) (c : Nat) (d : List UInt8) : Prop where
  ex : ∃ s, Beside wr P S X a c d s
  sS : Since w S
  sX : w.heap.size ≤ X

set_option maxHeartbeats 4000000 in
set_option maxRecDepth 100000 in
theorem codeReads_walk (ra : Option Addr) (rl rc : Nat) (d : List UInt8) (a : Option Addr) (len cap : Nat) (cs : List Cl) (w : World) (hd : InBytes w ra rl rc d) (hx : InCalls w a len cap cs) :
    Calls Try.prog 6 #[.slice ra rl rc, .slice a len cap] w fun e w' => e = .returned (.bool true) ∧ Keep [] w w' := by
  have hlong := long_any a len cap cs w hx
  have hre := hd.reach
  have hle := hd.hle
  cases hb : longB cs with
  | true =>
    rw [hb] at hlong
    go_enter Try.func6, Try.ntmps6
    go_wp2_with (first | (go_at_call 19; refine hlong.mono ?_; rintro e w1 ⟨rfl, hw⟩; have hw' := hw.symm; subst hw') | fail)
    go_returns
    exact ⟨rfl, Keep.refl _ _⟩
  | false =>
    rw [hb] at hlong
    have hcl : len ≤ 200 ∧ total cs ≤ 200000 := by
      have := hx.hlen
      simp [longB] at hb; omega
    obtain ⟨hlen2, htot⟩ := hcl
    clear hb
    by_cases hbig : 200000 < rl
    · go_enter Try.func6, Try.ntmps6
      go_wp2_with (first | (go_at_call 19; refine hlong.mono ?_; rintro e w1 ⟨rfl, hw⟩; have hw' := hw.symm; subst hw') | fail)
      go_returns
      exact ⟨rfl, Keep.refl _ _⟩
    · obtain ⟨D, hD⟩ : ∃ D, w.heap.size = D := ⟨_, rfl⟩
      obtain ⟨w0, hw0⟩ : ∃ w0, w.alloc (.cells #[.slice none 0 0] 26) = w0 := ⟨_, rfl⟩
      have hD0 : DkAt w0 D [D, D] := by rw [← hw0, ← hD]; exact DkAt.new w
      have k0 : Keep [] w w0 := by rw [← hw0]; exact (Keep.refl _ _).alloc _
      have sD : Since w [D, D] := by intro b hb; simp at hb; omega
      have HL := Lib.hid hd.hlen
      have C1 := Lib.hid (layD_any D [D, D] ra rl rc d w0 hD0 (hd.keep k0 (by simp)) (hd.since sD))
      go_enter Try.func6, Try.ntmps6
      go_upto_region 5 with (first
        | (go_at_call 19; refine hlong.mono ?_; rintro e w9 ⟨rfl, hw⟩; have hw' := hw.symm; subst hw')
        | (go_at_call 15; refine C1.out.mono ?_; rintro e w2 ⟨g2, c2, rfl, hd2, hc5, hcm, hr2, hk2, hf2, hgD⟩
           have C2 := read_any (some ⟨g2, 0, none⟩) rl c2 d w2 HL.out (by simp) hr2 (by omega))
        | (go_at_call 23; refine C2.mono ?_; rintro e w3 ⟨P, S, rfl, hR3, hfS, hk3⟩)
        | fail)
      clear hw0 hD C1 hD0 hlong hw
      have kA2 : Keep [] w w2 := sD.keep k0 hk2
      have kA3 : Keep [] w w3 := kA2.trans' hk3
      have sS : Since w S := fun b hb => by have := hfS.out b hb; have := kA2.size; omega
      have sD2 : Since w [D, g2] := sD.fr hf2 k0.size
      have hD3 := hd2.1.keep hk3 (by simp)
      have hde3 : DeskAt w3 D g2 c2 (laid d c2) := by
        refine ⟨hd2.2.len, Nat.lt_of_lt_of_le hd2.2.lt hk3.size, ?_⟩
        rcases hd2.2.at_ with ⟨q1, q2, q3⟩ | ⟨q1, q2, q3⟩
        · exact absurd q3 hgD
        · exact Or.inr ⟨q1, q2.keep hk3 (by simp), q3.keep hk3 (by simp)⟩
      have djS : Dj S [D, g2] := fun b hb h => by have := hfS.out b hb; have := hd2.1.lt b h; omega
      have C4 := lies_any D g2 c2 ra rc d w3 hcm (by rw [HL.out]; omega) (by rw [HL.out]; omega) hde3 (hd.keep kA3 (by simp)).rd
      rw [HL.out] at C4
      have C4 := Lib.hid C4
      clear hde3 hd2 hk2 hf2 hk3 hfS k0 kA2 hr2
      go_upto_region 8 with (first
        | (go_at_call 17; refine C4.out.mono ?_; rintro e w4 ⟨rfl, m, rfl⟩; have hD4 := hD3.keep ((Keep.refl [] w3).drewN (n := m)) (by simp))
        | (go_at_call 15; refine (layD_any D [D, g2] none 0 0 [] _ hD4 (nilIn _) (fun h => absurd rfl h)).mono ?_; rintro e w5 ⟨g5, c5, rfl, hd5, -, -, -, hk5, hf5, -⟩)
        | fail)
      have kA4 : Keep [] w (w3.drewN m) := kA3.drewN
      have kA5 : Keep [] w w5 := sD2.keep kA4 hk5
      have hR5 := (hR3.keep ((Keep.refl [] w3).drewN (n := m)) (by simp)).keep hk5 djS
      have hd6 := hd.keep kA5 (by simp)
      obtain ⟨X, hX⟩ : ∃ X, w5.heap.size = X := ⟨_, rfl⟩
      obtain ⟨w6, hw6⟩ : ∃ w6, w5.alloc (.cells #[.slice ra rl rc, .int .i64 0, .int .i64 0, .int .i64 0] 53) = w6 := ⟨_, rfl⟩
      have hX6 : RefAt w6 X ra rc d ⟨0, 0, 0⟩ := by rw [← hw6]; exact RefAt.new hd6 X hX.symm
      have k6 : Keep [] w5 w6 := by rw [← hw6]; exact (Keep.refl _ _).alloc _
      have kA6 := kA5.trans' k6
      have hXS : X ∉ S := fun h => by have := hR5.lt X h; omega
      have hXw : w.heap.size ≤ X := by have := kA5.size; omega
      have hbe : Beside w6 P S X ra rc d ⟨0, 0, 0⟩ := ⟨hR5.keep k6 (by simp), hX6, hXS, hd.since sS⟩
      go_upto_region 9 with fail
      clear hw6 hX hX6 k6 hR5 hd6 kA5 kA4 hD4 hk5 hf5 hd5 C4 hD3 hR3 kA3 djS sD2 sD hXS
      go_wp2_with fail
      go_loopw [8] (fun v8 wr => ∃ i s, i ≤ len ∧ v8 = .int .i64 (i : Nat) ∧ Beside wr P S X ra rc d s ∧ Keep [] w wr) (fun v8 _ => len - (intOf v8).toNat)
      case atStart => exact ⟨0, _, by omega, rfl, hbe, kA6⟩
      case round =>
        clear hbe kA6
        obtain ⟨i, s, hi, rfl, hbe, hkw⟩ := hrel
        by_cases hlt : i < len
        · obtain ⟨c, b, off, ai, li, ci, hc, rfl, d0, d1, d2, d3, ⟨hwk, hwv, hwu⟩, hin⟩ := hx.at hlt
          have e0 := hkw.cell d0 (by simp)
          have e1 := hkw.cell d1 (by simp)
          have e2 := hkw.cell d2 (by simp)
          have e3 := hkw.cell d3 (by simp)
          have C5 := readLaw_any P X S ra rc d s c ai li ci wr hbe hwv (by rw [HL.out]; omega)
          unfold Reads2 at C5
          have C5 := Lib.hid C5
          clear hc
          go_wp2_with (first
            | (go_at_call 24; refine C5.out.mono ?_; rintro e w7 ⟨rfl, s7, hb7, hk7⟩)
            | fail)
          refine ⟨⟨i + 1, s7, by omega, by go_num, hb7, hkw.trans hk7 (fun b hb => ?_)⟩, by simp [intOf]; omega⟩
          simp only [List.mem_cons, List.not_mem_nil, or_false] at hb
          rcases hb with rfl | rfl
          · exact Or.inr (sS _ hbe.mine.self)
          · exact Or.inr hXw
        · go_wp2_with (first
            | (go_at_call 18; refine (known_any _).mono ?_; rintro e w9 ⟨rfl, hk9⟩)
            | fail)
          go_returns
          exact ⟨rfl, hkw.trans' hk9⟩
end Go.Proofs.Ytkhplfgehcljmaa
