/- long; the calls of a script. -/
import Derived.Test.YtkhplfgehcljmaaX
set_option linter.unusedVariables false
set_option linter.unusedSimpArgs false
namespace Go.Proofs.Ytkhplfgehcljmaa
open Go.RowKit

def total (cs : List Cl) : Nat := (cs.map (·.d.length)).sum
theorem total_take {cs : List Cl} {i : Nat} {c : Cl} (h : cs[i]? = some c) : total (cs.take (i + 1)) = total (cs.take i) + c.d.length := by
  rw [List.take_add_one, h]; simp [total]
theorem total_le (cs : List Cl) (i : Nat) : total (cs.take i) ≤ total cs := by
  have : total cs = total (cs.take i) + total (cs.drop i) := by
    unfold total
    rw [← List.sum_append, ← List.map_append, List.take_append_drop]
  omega
def longB (cs : List Cl) : Bool := decide (200 < cs.length ∨ 200000 < total cs)

theorem InCalls.keep {w w' : World} {a : Option Addr} {l c : Nat} {cs : List Cl} {S : List Nat} (h : InCalls w a l c cs) (k : Keep [] w w') : InCalls w' a l c cs := by
  obtain ⟨vs, h1, h2, h3⟩ := h.rows
  refine ⟨h.hlen, ⟨vs, h1, h2.keep k (by simp), fun i c hc => ?_⟩, h.hle, h.hnil, h.max⟩
  obtain ⟨g0, g1, g2, g3, ai, li, ci, g4, g5⟩ := h3 i c hc
  exact ⟨g0, g1, g2, g3, ai, li, ci, g4, g5.keep k (by simp)⟩
/-- One call: its cells. -/
theorem InCalls.at {w : World} {a : Option Addr} {l cap i : Nat} {cs : List Cl} (h : InCalls w a l cap cs) (hi : i < l) : ∃ c b off ai li ci, cs[i]? = some c ∧ a = some ⟨b, off, none⟩ ∧
    w.cell? ⟨b, off + i * 4, none⟩ = some (.int .i64 c.k) ∧ w.cell? ⟨b, off + i * 4 + 1, none⟩ = some (.int .i64 c.v) ∧ w.cell? ⟨b, off + i * 4 + 2, none⟩ = some (.int .i64 c.u) ∧ w.cell? ⟨b, off + i * 4 + 3, none⟩ = some (.slice ai li ci) ∧
    ((Lit.int .i64 c.k).wf = true ∧ (Lit.int .i64 c.v).wf = true ∧ (Lit.int .i64 c.u).wf = true) ∧ InBytes w ai li ci c.d := by
  have hl := h.hlen
  obtain ⟨c, hc⟩ : ∃ c, cs[i]? = some c := ⟨_, List.getElem?_eq_getElem (by omega)⟩
  obtain ⟨vs, h1, h2, h3⟩ := h.rows
  obtain ⟨g0, g1, g2, g3, ai, li, ci, g4, g5⟩ := h3 i c hc
  rcases h2 with h2 | ⟨b, off, h2, hcell⟩
  · subst h2; simp at g0
  · exact ⟨c, b, off, ai, li, ci, hc, h2, hcell _ _ g0, by rw [Nat.add_assoc]; exact hcell _ _ g1, by rw [Nat.add_assoc]; exact hcell _ _ g2, by rw [Nat.add_assoc]; exact hcell _ _ g4, g3, g5⟩

set_option maxHeartbeats 2000000 in
set_option maxRecDepth 100000 in
theorem long_any (a : Option Addr) (len cap : Nat) (cs : List Cl) (w : World) (hx : InCalls w a len cap cs) :
    Calls Try.prog 19 #[.slice a len cap] w fun e w' => e = .returned (.bool (longB cs)) ∧ w' = w := by
  have hl := hx.hlen
  have hm : len ≤ 9223372036854775807 := by have := hx.hle; have := hx.max; unfold maxLen at this; omega
  by_cases h200 : 200 < len
  · have hb : longB cs = true := by simp [longB]; omega
    rw [hb]
    clear hb hl
    go_enter Try.func19, Try.ntmps19
    go_wp2_with fail
    go_returns
    exact ⟨rfl, rfl⟩
  · have HL := Lib.hid hl
    clear hl
    go_enter Try.func19, Try.ntmps19
    go_wp2_with fail
    go_loop [3, 4] (fun v3 v4 => ∃ i t : Nat, i ≤ len ∧ v4 = .int .i64 i ∧ v3 = .int .i64 t ∧ t ≤ 200000 ∧ Hid (total (cs.take i) = t)) (fun _ v4 => len - (intOf v4).toNat)
    case atStart => exact ⟨0, 0, by omega, rfl, rfl, by omega, Lib.hid rfl⟩
    case round =>
      obtain ⟨i, t, hi, rfl, rfl, ht, HT⟩ := hrel
      by_cases hlt : i < len
      · obtain ⟨c, b, off, ai, li, ci, hc, rfl, -, -, -, d3, -, hin⟩ := hx.at hlt
        have hre := hin.reach
        have hle := hin.hle
        have HN := Lib.hid (show total (cs.take (i + 1)) = t + li by rw [total_take hc, HT.out, hin.hlen])
        have HC := Lib.hid hc
        clear hc
        by_cases hbig : 200000 < t + li
        · go_wp2_with fail
          go_returns
          have hb : longB cs = true := by
            have := total_le cs (i + 1)
            have := HN.out
            simp [longB]; omega
          rw [hb]
          exact ⟨rfl, rfl⟩
        · go_wp2_with fail
          exact ⟨⟨i + 1, t + li, by omega, by go_num, by go_num, by omega, HN⟩, by simp [intOf]; omega⟩
      · go_wp2_with fail
        go_returns
        have hb : longB cs = false := by
          have h1 := HT.out
          have h2 := HL.out
          rw [List.take_of_length_le (by omega)] at h1
          simp [longB]; omega
        rw [hb]
        exact ⟨rfl, rfl⟩

theorem turn_any (k n : Nat) (w : World) (hk : k < 2 * n) (hn : n ≤ 1000) :
    Calls Try.prog 13 #[.int .i64 k, .int .i64 n] w fun e w' => (∃ i : Nat, i < n ∧ e = .returned (.int .i64 i)) ∧ w' = w := by
  by_cases h : k < n
  · go_enter Try.func13, Try.ntmps13
    go_wp2_with fail
    go_returns
    exact ⟨⟨k, h, rfl⟩, rfl⟩
  · go_enter Try.func13, Try.ntmps13
    go_wp2_with fail
    go_returns
    refine ⟨⟨2 * n - 1 - k, by omega, ?_⟩, rfl⟩
    have : ((2 * n - 1 - k : Nat) : Int) = 2 * (n : Int) - 1 - k := by omega
    rw [this]; rfl

/-- A row of an argument that is rows. -/
theorem InRows.at {w : World} {a : Option Addr} {l cap i : Nat} {xss : List (List UInt8)} (h : InRows w a l cap xss) (hi : i < l) : ∃ xs b off ai li ci, xss[i]? = some xs ∧ a = some ⟨b, off, none⟩ ∧ w.cell? ⟨b, off + i, none⟩ = some (.slice ai li ci) ∧ InBytes w ai li ci xs := by
  have hl := h.hlen
  obtain ⟨vs, h1, h2, h3⟩ := h.rows
  obtain ⟨ai, li, ci, g1, g2⟩ := h3 i (by omega)
  rcases h2 with h2 | ⟨b, off, h2, hcell⟩
  · subst h2; simp at g1
  · exact ⟨_, b, off, ai, li, ci, List.getElem?_eq_getElem (by omega), h2, hcell _ _ g1, g2⟩

set_option maxHeartbeats 4000000 in
set_option maxRecDepth 100000 in
theorem codeSums_walk (a : Option Addr) (len cap : Nat) (xss : List (List UInt8)) (w : World) (hx : InRows w a len cap xss) :
    Calls Try.prog 3 #[.slice a len cap] w fun e w' => e = .returned (.bool true) ∧ Keep [] w w' := by
  have hre := hx.reach
  have hle := hx.hle
  by_cases h200 : 200 < len
  · go_enter Try.func3, Try.ntmps3
    go_wp2_with fail
    go_returns
    exact ⟨rfl, Keep.refl _ _⟩
  · obtain ⟨D, hD⟩ : ∃ D, w.heap.size = D := ⟨_, rfl⟩
    obtain ⟨w0, hw0⟩ : ∃ w0, w.alloc (.cells #[.slice none 0 0] 26) = w0 := ⟨_, rfl⟩
    have hD0 : DkAt w0 D [D, D] := by rw [← hw0, ← hD]; exact DkAt.new w
    have k0 : Keep [] w w0 := by rw [← hw0]; exact (Keep.refl _ _).alloc _
    have HD0 := Lib.hid hD0
    have HK0 := Lib.hid k0
    have HD := Lib.hid hD
    have HW0 := Lib.hid hw0
    clear hD hw0 hD0 k0
    go_enter Try.func3, Try.ntmps3
    go_wp2_with fail
    go_loop [3, 4] (fun v3 v4 => ∃ i t : Nat, i ≤ len ∧ v4 = .int .i64 i ∧ v3 = .int .i64 t ∧ t ≤ 200000) (fun _ v4 => len - (intOf v4).toNat)
    case atStart => exact ⟨0, 0, by omega, rfl, rfl, by omega⟩
    case round =>
      obtain ⟨i, t, hi, rfl, rfl, ht⟩ := hrel
      by_cases hlt : i < len
      · obtain ⟨xs, b, off, ai, li, ci, hc, rfl, d3, hin⟩ := hx.at hlt
        have hre2 := hin.reach
        have hle2 := hin.hle
        clear hc
        by_cases hbig : 200000 < t + li
        · go_wp2_with fail
          go_returns
          exact ⟨rfl, Keep.refl _ _⟩
        · go_wp2_with fail
          exact ⟨⟨i + 1, t + li, by omega, by go_num, by go_num, by omega⟩, by simp [intOf]; omega⟩
      · have hw0 := HW0.out
        have hD := HD.out
        go_wp2_with fail
        clear hw0 hD
        go_loopw [6] (fun v6 wr => ∃ k T, k ≤ 2 * len ∧ v6 = .int .i64 (k : Nat) ∧ DkAt wr D T ∧ (∀ b ∈ T, w.heap.size ≤ b) ∧ Keep [] w wr) (fun v6 _ => 2 * len - (intOf v6).toNat)
        case atStart => exact ⟨0, [D, D], by omega, rfl, HD0.out, by have := HD.out; intro b hb; simp at hb; omega, HK0.out⟩
        case round =>
          obtain ⟨k, T, hk, rfl, hDk, hT, hkw⟩ := hrel
          by_cases hlt2 : k < 2 * len
          · obtain ⟨_, b, off, _, _, _, _, rfl, _, _⟩ := hx.at (i := 0) (by omega)
            go_upto_region 15 with (first
              | (go_at_call 13; refine (turn_any k len _ hlt2 (by omega)).mono ?_; rintro e w9 ⟨⟨j, hj, rfl⟩, hw⟩; have hw' := hw.symm; subst hw'
                 obtain ⟨xs, b', off', ai, li, ci, hc, hab, d3, hin⟩ := hx.at hj
                 obtain ⟨rfl, rfl⟩ : b' = b ∧ off' = off := by simp at hab; exact ⟨hab.1.symm, hab.2.symm⟩
                 have d4 := hkw.cell d3 (by simp)
                 have i1 : (j : Int) < len := by omega)
              | fail)
            have hin' := hin.keep hkw (by simp)
            have hli := hin.hlen
            have hre2 := hin.reach
            have hle2 := hin.hle
            have hdis : xs ≠ [] → ablk ai ∉ T := fun hne h => by have := hin.blk hne; have := hT _ h; omega
            have C1 := Lib.hid (layD_any D T ai li ci xs wr hDk hin' hdis)
            have C3 := Lib.hid (fun W (k : Keep [] w W) => refSum_any ai li ci xs W hli (by omega) (hin.keep k (by simp)).rd)
            have HLI := Lib.hid hli
            clear hc hab d3 d4 hli hw
            obtain ⟨cr, hcr⟩ : ∃ cr : Nat, crc xs = cr := ⟨_, rfl⟩
            have hcmp : ((cr : Int) != cr) = false := by simp
            rw [hcr] at C3
            have HCR := Lib.hid hcr
            clear hcr
            go_wp2_with (first
              | (go_at_call 15; refine C1.out.mono ?_; rintro e w2 ⟨g2, c2, rfl, hd2, hc5, hcm, hr2, hk2, hf2, hgD⟩
                 have C2 := sum_any (some ⟨g2, 0, none⟩) li c2 xs w2 HLI.out (by omega) hr2
                 rw [HCR.out] at C2)
              | (go_at_call 14; refine C2.mono ?_; rintro e w3 ⟨rfl, hk3⟩
                 have kA : Keep [] w w3 := (hkw.trans hk2 (fun b hb => Or.inr (hT b hb))).trans' hk3
                 have hde3 : DeskAt w3 D g2 c2 (laid xs c2) := by
                   refine ⟨hd2.2.len, Nat.lt_of_lt_of_le hd2.2.lt hk3.size, ?_⟩
                   rcases hd2.2.at_ with ⟨q1, q2, q3⟩ | ⟨q1, q2, q3⟩
                   · exact absurd q3 hgD
                   · exact Or.inr ⟨q1, q2.keep hk3 (by simp), q3.keep hk3 (by simp)⟩
                 have C4 := lies_any D g2 c2 ai ci xs w3 hcm (by rw [HLI.out]; omega) (by rw [HLI.out]; omega) hde3 (hin.keep kA (by simp)).rd
                 rw [HLI.out] at C4)
              | (go_at_call 16; refine (C3.out _ kA).mono ?_; rintro e w4 ⟨rfl, hw⟩; have hw' := hw.symm; subst hw')
              | (go_at_call 17; refine C4.mono ?_; rintro e w5 ⟨rfl, m, rfl⟩)
              | fail)
            refine ⟨⟨k + 1, [D, g2], by omega, by go_num, (hd2.1.keep hk3 (by simp)).keep ((Keep.refl [] _).drewN) (by simp), ?_, kA.drewN⟩, by simp [intOf]; omega⟩
            intro b hb
            rcases hf2 b hb with h | h
            · exact hT b h
            · have := hkw.size; omega
          · go_wp2_with (first
              | (go_at_call 18; refine (known_any _).mono ?_; rintro e w9 ⟨rfl, hk9⟩)
              | fail)
            go_returns
            exact ⟨rfl, hkw.trans' hk9⟩
end Go.Proofs.Ytkhplfgehcljmaa
